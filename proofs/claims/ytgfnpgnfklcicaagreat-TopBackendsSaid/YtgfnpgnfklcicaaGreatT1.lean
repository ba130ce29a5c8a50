/- Part 1 of what the proof of TopBackends leans on. Conditions: none. -/
import Derived.Test.YtgfnpgnfklcicaaGreatT0
import Derived.Conc.SmallLaws
import Derived.Control
import Derived.Scope
import Derived.ScopeJumps
import Derived.LoopN
import Derived.Conc.LoneCalls
import Derived.Conc.LoneSelect
set_option linter.unusedSimpArgs false
set_option linter.unusedVariables false
namespace Go.Proofs.YtgfnpgnfklcicaaGreatS
open Go Go.RowKit
theorem Yzn {α : Type} (l us : List α) (h : us.length = l.length) : jx l 0 us = us := by
 unfold jx
 simp [h]
theorem qQ {id : Nat} : ∀ {es : List Eff} {m : List (Nat × Ob)}, es.all (YC id) = true → Zz id (Qs m es) = Zz id m
 | [], m, _ => rfl
 | e :: es, m, h => by
   simp only [List.all_cons, Bool.and_eq_true] at h
   have := qQ (es := es) (m := Eff.on m e) h.2
   show Zz id (Qs (Eff.on m e) es) = _
   rw [this]
   cases e with
   | new i o => simp [YC] at h
   | put i o vs => simp [YC] at h
   | cset i q => simp [YC] at h
   | rset j md t xs =>
     have hne : id ≠ j := by
      have := h.1
      simp only [YC, Bool.not_eq_true', beq_eq_false_iff_ne] at this
      exact Ne.symm this
     exact zy j id _ hne m
theorem Jp {P : Program} {t e : Nat} (h : zD P t = some e) : P.underlying t = some (.slice e) := by
 unfold zD at h
 split at h
 · rename_i e' he
   cases h
   exact he
 · cases h
theorem j7 : ∀ {ks : List K} {ps : List PV}, cfs ks ps → ∀ {i : Nat} {k : K} {p : PV}, ks[i]? = some k → ps[i]? = some p → cf k p
 | k :: ks, p :: ps, h, 0, _, _, h1, h2 => by simp at h1 h2; rw [← h1, ← h2]; exact h.1
 | k :: ks, p :: ps, h, i + 1, _, _, h1, h2 => j7 h.2 (by simpa using h1) (by simpa using h2)
 | [], _, _, i, _, _, h1, _ => by simp at h1
 | _ :: _, [], h, _, _, _, _, _ => h.elim
theorem ZB : ∀ {ks : List K} {ps : List PV}, ps.length = ks.length → (∀ (i : Nat) (k : K) (p : PV), ks[i]? = some k → ps[i]? = some p → cf k p) → cfs ks ps
 | [], [], _, _ => trivial
 | k :: ks, p :: ps, h, g => ⟨g 0 k p rfl rfl, ZB (by simpa using h) fun i k' p' h1 h2 => g (i + 1) k' p' (by simpa using h1) (by simpa using h2)⟩
 | [], _ :: _, h, _ => by simp at h
 | _ :: _, [], h, _ => by simp at h
theorem jzW {ks : List K} {ps qs : List PV} {off : Nat} (h : cfs ks ps) (g : cfs ((ks.drop off).take qs.length) qs) (ho : off + qs.length ≤ ks.length) : cfs ks (jx ps off qs) := by
 have hl := h.length
 refine ZB (by rw [Qp _ _ _ (by omega), hl]) fun i k p h1 h2 => ?_
 rw [qi _ _ _ (by omega)] at h2
 split at h2
 · exact j7 h h1 h2
 · split at h2
   · refine j7 g (i := i - off) ?_ h2
     rw [List.getElem?_take, if_pos (by omega), List.getElem?_drop, ← h1]
     congr 1
     omega
   · exact j7 h h1 h2
theorem VPs.spl {P : Program} {w : World} {S : Nat → Nat → Prop} {as bs : List PV} {vs us : List Value} (h : VPs P w S as vs) (k : VPs P w S bs us) (off : Nat) : VPs P w S (jx as off bs) (jx vs off us) := by
 unfold jx
 rw [k.length]
 have app : ∀ {as bs : List PV} {vs us : List Value}, VPs P w S as vs → VPs P w S bs us → VPs P w S (as ++ bs) (vs ++ us) := by
  intro as bs vs us h k
  refine VPs.of_get (by simp [h.length, k.length]) fun i a v h1 h2 => ?_
  rcases Nat.lt_or_ge i as.length with hi | hi
  · rw [List.getElem?_append_left hi] at h1
    rw [List.getElem?_append_left (by rw [h.length]; exact hi)] at h2
    obtain ⟨v', h3, h4⟩ := h.get h1
    rw [h2] at h3; cases h3; exact h4
  · rw [List.getElem?_append_right hi] at h1
    rw [List.getElem?_append_right (by rw [h.length]; exact hi), h.length] at h2
    obtain ⟨v', h3, h4⟩ := k.get h1
    rw [h2] at h3; cases h3; exact h4
 exact app (app (h.take off) k) (h.drop _)
section
variable {P : Program} {X : Out} {s : St} {mu : Nat → Option Nat} {ka : Nat → Nat} {cst : List (List Value)} {act : Act} {w : World} {E : Env} {fr : Nat} {o : Oper} {p : AV × List Eff} {K : Act → World → Prop} {Q : Exit → Act → World → Prop}
theorem Ql (s : St) (dst : Option Nat) (v : AV) (es : List Eff) : s.app dst (v, es) = ({ s with mem := Qs s.mem es }.put dst v) := by
 cases dst <;> rfl
theorem zzf : ∀ {l : List Nat}, Jzh l = true → l.Nodup
 | [], _ => List.nodup_nil
 | o :: os, h => by
   simp only [Jzh, Bool.and_eq_true, Bool.not_eq_true', List.contains_eq_mem, decide_eq_false_iff_not] at h
   exact List.nodup_cons.2 ⟨h.1, zzf h.2⟩
theorem yzf {i : Nat} {k : IntKind} {m : Int} {cs : List AV} : ∀ (j : Nat) (os : List Nat) (ns : List Int), (Zi i k m cs j os ns).length = cs.length
 | _, [], _ => by simp [Zi]
 | _, _ :: _, [] => by simp [Zi]
 | j, o :: os, n :: ns => by
   simp only [Zi, List.length_set]
   exact yzf (j + 1) os ns
theorem qzf {α : Type} {l : List α} {o : Nat} {v : α} (h : l[o]? = some v) : l.set o v = l := by
 apply List.ext_getElem?
 intro q
 rw [List.getElem?_set]
 split
 · rename_i e
   subst e
   split
   · exact h.symm
   · rw [List.getElem?_eq_none (by omega)]
 · rfl
theorem Jzw {k : IntKind} {cs : List AV} {o : Nat} {os : List Nat} {ns : List Int} (h : qX k cs (o :: os) = some ns) : ∃ n r, ns = n :: r ∧ cs[o]? = some (.pv (.int k n)) ∧ qX k cs os = some r := by
 unfold qX at h
 split at h
 · rename_i k' n r h1 h2
   split at h
   · rename_i hd
     obtain rfl := of_decide_eq_true hd
     cases h
     exact ⟨n, r, rfl, h1, h2⟩
   · cases h
 · cases h
theorem QzL {c : Cx} {cs : List AV} {vs : List Value} (h : VAs P c cs vs) {o : Nat} {k : IntKind} {n : Int} (ho : cs[o]? = some (.pv (.int k n))) : vs[o]? = some (.int k n) := by
 obtain ⟨v, k1, k2⟩ := h.get ho
 simp only [VA, VP] at k2
 subst k2
 exact k1
theorem zzv {c : Cx} {i : Nat} {k : IntKind} {m : Int} {cs : List AV} {vs : List Value} (h : VAs P c cs vs) : ∀ {os : List Nat} {ns : List Int} (j : Nat), qX k cs os = some ns → i < j → VAs P c (Zi i k m cs j os ns) vs
 | [], _, _, _, _ => by simpa [Zi] using h
 | o :: os, ns, j, hn, hj => by
   obtain ⟨n, r, rfl, h1, h2⟩ := Jzw hn
   have ih := zzv h (j + 1) h2 (show i < j + 1 by omega) (m := m)
   simp only [Zi]
   rw [decide_eq_false (by omega), cond_false, ← qzf (QzL h h1)]
   exact VAs.set ih o (by simp only [VA, VP])
theorem JzL {c : Cx} {i0 : Nat} {k : IntKind} {m : Int} {cs : List AV} {vs : List Value} (h : VAs P c cs vs) : ∀ {os : List Nat} {ns : List Int}, qX k cs os = some ns → os.Nodup → ∀ (j i : Nat) {o : Nat}, os[i]? = some o → ∃ v', vs[o]? = some v' ∧ VAs P c (Zi (j + i) k m cs j os ns) (vs.set o (.int k m))
 | [], _, _, _, _, _, _, h => by simp at h
 | o :: os, ns, hn, hd, j, i, o', hi => by
   obtain ⟨n, r, rfl, h1, h2⟩ := Jzw hn
   obtain ⟨d1, d2⟩ := List.nodup_cons.1 hd
   simp only [Zi]
   cases i with
   | zero =>
     simp only [List.getElem?_cons_zero, Option.some.injEq] at hi
     subst hi
     refine ⟨_, QzL h h1, ?_⟩
     rw [decide_eq_true (by omega), cond_true]
     exact VAs.set (zzv h (j + 1) h2 (by omega)) o (by simp only [VA, VP])
   | succ i =>
     have hi' : os[i]? = some o' := by simpa using hi
     obtain ⟨v', k1, k2⟩ := JzL (i0 := i0) (m := m) h h2 d2 (j + 1) i hi'
     refine ⟨v', k1, ?_⟩
     rw [decide_eq_false (by omega), cond_false]
     have hne : o' ≠ o := fun e => d1 (e ▸ List.mem_of_getElem? hi')
     have hs : (vs.set o' (.int k m))[o]? = some (.int k n) := by
      rw [List.getElem?_set, if_neg hne]
      exact QzL h h1
     rw [← qzf hs, show j + (i + 1) = j + 1 + i by omega]
     exact VAs.set k2 o (by simp only [VA, VP])
theorem Qzn (h : Rel E.P X s mu ka cst act.tmps.toList w) {t : Nat} {x y : Operand} (ho : o.op = .store t x y) (hp : (evOp E fr o).val s.view = some p) (hK : Next E.P X (s.app o.dst p) cst act K) : o.wp E.P act w K Q := by
 simp only [evOp, ho] at hp
 obtain ⟨a, h1, hp⟩ := val_bind hp
 obtain ⟨v, h2, hp⟩ := val_bind hp
 have ha := h.op h1
 have hv := h.op h2
 unfold qyk at hp
 obtain ⟨hg, hp2⟩ := Qy hp
 clear hp
 simp only [Bool.and_eq_true, beq_iff_eq] at hg
 obtain ⟨⟨hl, hone⟩, hinf⟩ := hg
 obtain ⟨hc, h1c⟩ := QL hv hone
 have hsz : (act.eval y).cells.size = Qx E.P t := by rw [← hl, ← hc.length, Array.length_toList]
 have run_ : ∀ {b off T : Nat} {vs : Array Value}, act.eval x = .pointer (some ⟨b, off, none⟩) → w.heap[b]? = some (.cells vs T (0, 0)) → off + (act.eval y).cells.size ≤ vs.size →
  (execOp act.eval o).run E.P w = .ok .skip (w.setRow b (jx vs.toList off (act.eval y).cells.toList).toArray) := by
  intro b off T vs e hg hf
  have := Zzw hinf hsz h1c hg hf
  simp [execOp, ho, Instr.storeAt, Instr.sureAddr, e, this]
 split at hp2
 · rename_i id off
   simp only [Rd.val] at hp2
   split at hp2
   · rename_i cs hx
     simp only [Rd.val, Option.some.injEq] at hp2
     subst hp2
     simp only [VA] at ha
     obtain ⟨b, hb, ha⟩ := ha
     unfold View.rng at hx
     split at hx
     · rename_i cs hf
       split at hx
       · rename_i hfit
         have hf' : Zz id s.mem = some (.box cs) := hf
         obtain ⟨T, vs, g1, g2, g3⟩ := h.store hf' hb hfit hc
         refine jL (run_ ha g1 (by simpa using g2)) g3 ?_
         have e : Qs s.mem [.put id off v.cells] = Yt id (.box (jx cs off v.cells)) s.mem := by
          show Eff.on s.mem (.put id off v.cells) = _
          simp only [Eff.on, hf']
         rw [Ql, e] at hK
         exact hK
       · cases hx
     · cases hx
   · simp [Rd.val] at hp2
 · rename_i id i off
   simp only [Rd.val] at hp2
   simp only [VA] at ha
   obtain ⟨b, t', n, hb, hrt, hi, ha⟩ := ha
   cases hf : Zz id s.mem with
   | none => simp [View.row, St.view, hf, Rd.val] at hp2
   | some ob =>
     cases ob with
     | box cs => simp [View.row, St.view, hf, Rd.val] at hp2
     | chan q => simp [View.row, St.view, hf, Rd.val] at hp2
     | row m u xs =>
       simp only [View.row, St.view, hf] at hp2
       have hrt' : rtOf s.mem id = some (t', n) := hrt
       rw [Jn hf] at hrt'
       obtain ⟨e1, e2⟩ := Prod.mk.inj (Option.some.inj hrt')
       subst e1
       subst e2
       split at hp2
       · obtain ⟨q, h3, hp3⟩ := val_bind hp2
         obtain ⟨hnr0, hp4⟩ := Qy hp3
         simp only [Bool.and_eq_true, decide_eq_true_eq] at hnr0
         obtain ⟨hnr, hoff0⟩ := hnr0
         simp only [Rd.val, Option.some.injEq] at hp4
         clear hp2 hp3
         subst hp4
         obtain ⟨g1, g2, g3⟩ := qY (s := s) (m0 := s.mem) rfl h (Dem.refl _) h3 hc
         have hf2 : Zz id (Qs s.mem q.2) = some (.row 2 u xs) := (qQ hnr).trans hf
         have hql : q.1.length = v.cells.length := by rw [← g2.length, hc.length]
         have hkl := g3.length
         simp only [List.length_take, List.length_drop] at hkl
         have hoff : off + q.1.length ≤ (jy E.P u).length := by omega
         have hci : cfs (jy E.P u) (xs.getD i []) := by
          obtain ⟨hcl, _⟩ := h.rowAt hf hb
          rw [List.getD_eq_getElem?_getD, List.getElem?_eq_getElem hi]
          exact hcl _ (List.getElem_mem hi)
         have hnew : cfs (jy E.P u) (match q.1.length == (jy E.P u).length with | true => q.1 | false => jx (etas (jy E.P u) (xs.getD i [])) off q.1) := by
          split
          · rename_i he
            have he' : q.1.length = (jy E.P u).length := eq_of_beq he
            have ho0 : off = 0 := by omega
            subst ho0
            simpa [← hql, he'] using g3
          · rw [Z5 hci]
            exact jzW hci (by rw [hql]; exact g3) hoff
         have hus : (act.eval y).cells.toList.length = q.1.length := g2.length
         obtain ⟨vs, k1, k2, k3⟩ := g1.rel.setEl (us := (act.eval y).cells.toList) (off := off) hf2 hb hi hnew (by rw [hus]; exact hoff) (by
          intro vs2 hvs2
          split
          · rename_i he
            have he' : q.1.length = (jy E.P u).length := eq_of_beq he
            have ho0 : off = 0 := by omega
            subst ho0
            rw [Yzn _ _ (by rw [hus, he', hvs2.length, hci.length])]
            exact g2
          · rw [Z5 hci]
            exact VPs.spl hvs2 g2 off)
         refine jL (run_ ha k1 (by rw [← Array.length_toList]; exact k2)) k3 ?_
         rw [Ql, jp] at hK
         exact hK
       · simp [Rd.val] at hp2
 · rename_i id offs i
   split at hp2
   · rename_i k m hcs
     obtain ⟨hnd, hp3⟩ := Qy hp2
     clear hp2
     simp only [Rd.val] at hp3
     split at hp3
     · rename_i ds hx
       split at hp3
       · rename_i ns hns
         simp only [Rd.val, Option.some.injEq] at hp3
         subst hp3
         simp only [VA] at ha
         obtain ⟨b, o', hb, hi, ha⟩ := ha
         unfold View.rng at hx
         split at hx
         · rename_i cs hf
           split at hx
           · rename_i hfit
             cases hx
             have hf' : Zz id s.mem = some (.box cs) := hf
             rw [hcs] at hc
             simp only [VAs] at hc
             obtain ⟨u, us0, hus, hu, rfl⟩ := hc
             have hu := Jo hu
             simp only [VP] at hu
             subst hu
             rcases h.obs id _ hf' with ⟨b', hb', T, vs, hg, hvs⟩ | ⟨q, _⟩
             case inr =>
              have hb2 : mu id = some b := hb
              rw [hb2] at q; cases q
             have hb2 : mu id = some b := hb
             rw [hb2] at hb'; cases hb'
             have hsub : VAs E.P (cx E.P X s.mem mu ka w) ((cs.drop 0).take (Jh offs)) (vs.toList.take (Jh offs)) := by
              have := (hvs.drop 0).take (Jh offs)
              simpa using this
             obtain ⟨v', k1, k2⟩ := JzL (i0 := 0) (m := m) hsub hns (zzf hnd) 0 i hi
             rw [Nat.zero_add] at k2
             obtain ⟨n0, hn0, _⟩ := J6 hns 0 i hi
             have hol : o' < Jh offs := by
              have := (List.getElem?_eq_some_iff.1 hn0).1
              simp only [List.length_take] at this
              omega
             have hlen : (Zi i k m ((cs.drop 0).take (Jh offs)) 0 offs ns).length = Jh offs := by
              rw [yzf]
              simp only [List.length_take, List.length_drop]
              omega
             obtain ⟨T', vs', g1, g2, g3⟩ := h.store (off := 0) (bs := Zi i k m ((cs.drop 0).take (Jh offs)) 0 offs ns) hf' hb (by rw [hlen]; omega) k2
             have hg' : w.heap[b]? = some (.cells vs T (0, 0)) := hg
             rw [hg'] at g1
             cases g1
             have hvl : vs.toList.length = cs.length := hvs.length
             have hspl : jx vs.toList 0 ((vs.toList.take (Jh offs)).set o' (.int k m)) = jx vs.toList o' (act.eval y).cells.toList := by
              rw [hus]
              unfold jx
              simp only [List.take_zero, List.nil_append, Nat.zero_add, List.length_set, List.length_take, List.length_cons, List.length_nil]
              rw [Nat.min_eq_left (by omega)]
              apply List.ext_getElem?
              intro q
              simp only [List.getElem?_append, List.length_set, List.length_take, List.getElem?_set, List.getElem?_take, List.getElem?_drop, List.length_append, List.length_cons, List.length_nil]
              repeat' split
              all_goals first
               | rfl
               | omega
               | (congr 1; omega)
               | (have e0 : q - min o' vs.toList.length = 0 := by omega
                  rw [e0]; rfl)
             rw [hspl] at g3
             refine jL (run_ ha hg' ?_) g3 ?_
             · rw [← Array.length_toList, hus, ← Array.length_toList, hvl]
               simp only [List.length_cons, List.length_nil]
               omega
             have e : Qs s.mem [.put id 0 (Zi i k m ((cs.drop 0).take (Jh offs)) 0 offs ns)] = Yt id (.box (jx cs 0 (Zi i k m ((cs.drop 0).take (Jh offs)) 0 offs ns))) s.mem := by
              show Eff.on s.mem (.put id 0 _) = _
              simp only [Eff.on, hf']
             rw [Ql, e] at hK
             exact hK
           · cases hx
         · cases hx
       · simp [Rd.val] at hp3
     · simp [Rd.val] at hp3
   · simp [Rd.val] at hp2
 · simp [Rd.val] at hp2
theorem zK (h : Rel E.P X s mu ka cst act.tmps.toList w) {t : Nat} {x y : Operand} (ho : o.op = .indexAddr t x y) (hp : (evOp E fr o).val s.view = some p) (hK : Next E.P X (s.app o.dst p) cst act K) : o.wp E.P act w K Q := by
 simp only [evOp, ho] at hp
 obtain ⟨v, h1, hp1⟩ := val_bind hp
 obtain ⟨iv, h2, hp2⟩ := val_bind hp1
 clear hp hp1
 split at hp2
 · rename_i k i
   have hv := h.op h1
   have hi := Jo (h.op h2)
   simp only [VP] at hi
   have run_ : ∀ {e b o1 n cap : Nat}, E.P.underlying t = some (.slice e) → Qx E.P e ≠ 0 → act.eval x = .slice (some ⟨b, o1, none⟩) n cap → 0 ≤ i → i < n →
    (execOp act.eval o).run E.P w = .ok (.value (.pointer (some ⟨b, o1 + i.toNat * Qx E.P e, none⟩))) w := by
    intro e b o1 n cap hu hz hx h0 hn
    obtain ⟨inf, hinf⟩ : ∃ i, E.P.info? e = some i := by
     cases hq : E.P.info? e with
     | none => simp [Qx, hq] at hz
     | some i => exact ⟨i, rfl⟩
    simp [execOp, ho, Instr.indexAt, hi, hx, Go.asIntOf, qu hu, h0, hn, Yj hinf, Addr.add_mid]
   unfold jyk at hp2
   split at hp2
   · rename_i e u xs he
     obtain ⟨hg, hp3⟩ := Qy hp2
     obtain ⟨hb, hp4⟩ := Zo hp3
     obtain rfl := Zx hp4
     simp only [Bool.and_eq_true, beq_iff_eq, decide_eq_true_eq, okE, bne_iff_ne, ne_eq] at hg hb
     obtain ⟨rfl, hsz, hnz⟩ := hg
     have hu := Jp he
     have hv' := Jo hv
     simp only [VP] at hv'
     obtain ⟨A, cap, us, g1, g2, g3, g4, g5⟩ := hv'
     have hpos : 0 < xs.length := by omega
     obtain ⟨b, o1, rfl, hr⟩ : ∃ b o1, A = some ⟨b, o1, none⟩ ∧ Lies w (Smut E.P X.S0 s.mem mu) (some ⟨b, o1, none⟩) us := by
      rcases g4 with rfl | ⟨b, o1, rfl, hr⟩
      · have := g5.length (n := (jy E.P u).length) (fun e he => (g3 e he).length)
        simp only [List.length_nil] at this
        have h3 : 0 < xs.length * (jy E.P u).length := Nat.mul_pos hpos (by omega)
        omega
      · exact ⟨b, o1, rfl, .inr ⟨b, o1, rfl, hr⟩⟩
     refine yx h (run_ hu hnz g1 hb.1 hb.2) ?_ hK
     simp only [VA]
     exact ⟨b, o1, us, g3, by omega, hr, g5, by rw [← hsz]; simp⟩
   · rename_i e u xs he
     obtain ⟨hg, hp3⟩ := Qy hp2
     obtain ⟨hb, hp4⟩ := Zo hp3
     obtain rfl := Zx hp4
     simp only [Bool.and_eq_true, beq_iff_eq, decide_eq_true_eq, okE, bne_iff_ne, ne_eq] at hg hb
     obtain ⟨rfl, hsz, hnz⟩ := hg
     have hu := Jp he
     simp only [VA] at hv
     obtain ⟨A, us, g1, g3, g4, g5⟩ := hv
     have hpos : 0 < xs.length := by omega
     obtain ⟨b, o1, rfl, hr⟩ : ∃ b o1, A = some ⟨b, o1, none⟩ ∧ Lies w (Smut E.P X.S0 s.mem mu) (some ⟨b, o1, none⟩) us := by
      rcases g4 with rfl | ⟨b, o1, rfl, hr⟩
      · have := g5.length (n := (jy E.P u).length) (fun e he => (g3 e he).length)
        simp only [List.length_nil] at this
        have h3 : 0 < xs.length * (jy E.P u).length := Nat.mul_pos hpos (by omega)
        omega
      · exact ⟨b, o1, rfl, .inr ⟨b, o1, rfl, hr⟩⟩
     refine yx h (run_ hu hnz g1 hb.1 hb.2) ?_ hK
     simp only [VA]
     exact ⟨b, o1, us, g3, by omega, hr, g5, by rw [← hsz]; simp⟩
   · rename_i e id he
     simp only [Rd.val, View.row, St.view] at hp2
     cases hf : Zz id s.mem with
     | none => rw [hf] at hp2; simp [Rd.val] at hp2
     | some ob =>
       cases ob with
       | box cs => rw [hf] at hp2; simp [Rd.val] at hp2
       | chan q => rw [hf] at hp2; simp [Rd.val] at hp2
       | row m u xs =>
         rw [hf] at hp2
         simp only at hp2
         obtain ⟨hg, hp3⟩ := Qy hp2
         obtain ⟨hb, hp4⟩ := Zo hp3
         obtain rfl := Zx hp4
         simp only [Bool.and_eq_true, beq_iff_eq, decide_eq_true_eq, okE, bne_iff_ne, ne_eq] at hg hb
         obtain ⟨rfl, hsz, hnz⟩ := hg
         have hu := Jp he
         simp only [VA] at hv
         obtain ⟨t', n, hrt, hv⟩ := hv
         have hrt' : rtOf s.mem id = some (t', n) := hrt
         rw [Jn hf] at hrt'
         obtain ⟨e1, e2⟩ := Prod.mk.inj (Option.some.inj hrt')
         subst e1
         subst e2
         rcases hv with ⟨b, hb2, hv⟩ | ⟨_, hn, _⟩
         · refine yx h (run_ hu hnz hv hb.1 hb.2) ?_ hK
           simp only [VA]
           exact ⟨b, u, xs.length, hb2, hrt, by omega, by rw [← hsz]; simp⟩
         · omega
   · rename_i e id offs he
     obtain ⟨hg, hp3⟩ := Qy hp2
     obtain ⟨hb, hp4⟩ := Zo hp3
     obtain rfl := Zx hp4
     simp only [Bool.and_eq_true, beq_iff_eq, decide_eq_true_eq] at hg hb
     have hu := Jp he
     simp only [VA] at hv
     obtain ⟨b, A, g1, g2, g3⟩ := hv
     have hlt : i.toNat < offs.length := by omega
     rcases g3 with g3 | ⟨b2, o2, rfl, hr⟩
     · have := congrArg List.length g3
       simp only [List.length_map, List.length_nil] at this
       omega
     refine yx h (run_ hu (by omega) g2 hb.1 hb.2) ?_ hK
     simp only [VA]
     exact ⟨b, b2, o2, g1, hlt, .inr ⟨b2, o2, rfl, hr⟩, by rw [hg, Nat.mul_one]⟩
   · simp [Rd.val] at hp2
 · simp [Rd.val] at hp2
theorem Jzn (h : Rel E.P X s mu ka cst act.tmps.toList w) {t : Nat} {x y : Operand} (ho : o.op = .index t x y) (hp : (evOp E fr o).val s.view = some p) (hK : Next E.P X (s.app o.dst p) cst act K) : o.wp E.P act w K Q := by
 simp only [evOp, ho] at hp
 obtain ⟨v, h1, hp1⟩ := val_bind hp
 obtain ⟨iv, h2, hp2⟩ := val_bind hp1
 clear hp hp1
 split at hp2
 · rename_i str k i hu
   obtain ⟨hb, hp3⟩ := Zo hp2
   obtain rfl := Zx hp3
   simp only [Bool.and_eq_true, decide_eq_true_eq] at hb
   have hx := Jo (h.op h1)
   have hi := Jo (h.op h2)
   simp only [VP] at hx hi
   have hlt : i.toNat < str.size := by omega
   refine yx (u := .int .u8 (str.get! i.toNat).toNat) h ?_ (by simp only [VA, VP]) hK
   have hget : str[i.toNat]? = some (str.get! i.toNat) := by
    rw [getElem?_pos str i.toNat hlt]
    congr 1
    cases str with
    | mk d =>
      have hlt' : i.toNat < d.size := hlt
      show d[i.toNat] = d[i.toNat]!
      rw [getElem!_pos d i.toNat hlt']
   simp [execOp, ho, hx, hi, Instr.index, Go.asIntOf, qu hu, hb.1, hget]
 · simp [Rd.val] at hp2
theorem zzm (h : Rel E.P X s mu ka cst act.tmps.toList w) {t f : Nat} {x : Operand} (ho : o.op = .field t x f) (hp : (evOp E fr o).val s.view = some p) (hK : Next E.P X (s.app o.dst p) cst act K) : o.wp E.P act w K Q := by
 simp only [evOp, ho] at hp
 obtain ⟨v, h1, hp1⟩ := val_bind hp
 clear hp
 have hx := h.op h1
 split at hp1
 · rename_i off ft cs hft
   obtain ⟨hg, hp2⟩ := Qy hp1
   clear hp1
   obtain ⟨d, hd⟩ := Option.isSome_iff_exists.1 hg
   simp only [VA] at hx
   obtain ⟨vs, hx, hvs⟩ := hx
   unfold ZM at hft
   split at hft
   · rename_i fs hfs
     split at hft
     · rename_i fd hfd
       cases hft
       have hsub := (hvs.drop fd.offset).take (Qx E.P fd.type)
       cases ha : jq E.P fd.type with
       | true =>
         rw [ha] at hp2
         simp only at hp2
         obtain ⟨hl, hp3⟩ := Qy hp2
         obtain rfl := Zx hp3
         refine yx (u := .agg ((vs.drop fd.offset).take (Qx E.P fd.type)).toArray) h ?_ (by simp only [VA]; exact ⟨_, rfl, hsub⟩) hK
         have := Yb (w := w) (off := fd.offset) (cs := vs.toArray) hd ha
         simp [execOp, ho, hx, Instr.field, qu hfs, hfd, Go.asAgg, this]
       | false =>
         rw [ha] at hp2
         cases hcs : (cs.drop fd.offset).take (Qx E.P fd.type) with
         | nil => rw [hcs] at hp2; simp [Rd.val] at hp2
         | cons c cs2 =>
           cases cs2 with
           | cons c2 cs3 => rw [hcs] at hp2; simp [Rd.val] at hp2
           | nil =>
             rw [hcs] at hp2 hsub
             obtain rfl := Zx hp2
             simp only [VAs] at hsub
             obtain ⟨u, us, hu1, hu2, rfl⟩ := hsub
             have hget : (vs.toArray).toList[fd.offset]? = some u := by
              have : ((vs.drop fd.offset).take (Qx E.P fd.type))[0]? = some u := by rw [hu1]; rfl
              rw [List.getElem?_take] at this
              split at this
              · simpa using this
              · cases this
             refine yx (u := u) h ?_ hu2 hK
             have := Qe (w := w) hd ha hget
             simp [execOp, ho, hx, Instr.field, qu hfs, hfd, Go.asAgg, this]
     · cases hft
   · cases hft
 · simp [Rd.val] at hp1
end
theorem ZzW (l : List Value) (k : Nat) (v : Value) (rest : List Value) (hk : k + (rest.length + 1) ≤ l.length) : jx (l.set k v) (k + 1) rest = jx l k (v :: rest) := by
 unfold jx
 exact list_seg_step l k v rest hk
theorem yK (off : Nat) : ∀ (l : List Value) (k : Nat) (cells : Array Value), off + k + l.length ≤ cells.size →
 ((l.zipIdx k).foldl (fun cs (x : Value × Nat) => cs.setIfInBounds (off + x.2) x.1) cells).toList = jx cells.toList (off + k) l
 | [], k, cells, _ => by simp [jx]
 | v :: l, k, cells, h => by
   simp only [List.length_cons] at h
   simp only [List.zipIdx_cons, List.foldl_cons]
   rw [yK off l (k + 1) (cells.setIfInBounds (off + k) v) (by simp; omega)]
   rw [Array.toList_setIfInBounds]
   exact ZzW cells.toList (off + k) v l (by simp; omega)
theorem qK (l : List Value) (p : Nat) (us : List Value) (h : p ≤ l.length) : (jx l p us).take (p + us.length) = l.take p ++ us := by
 unfold jx
 rw [List.take_append_of_le_length (by simp; omega), List.take_of_length_le (by simp; omega)]
theorem jK (place : Nat → Option (Nat × Nat)) (cells : Array Value) (i off : Nat) (v : Value) (rest : List (Nat × Value)) (hp : place i = some (off, v.cells.size)) (hf : off + v.cells.size ≤ cells.size) :
 ∃ cells' : Array Value, cells'.toList = jx cells.toList off v.cells.toList ∧ Instr.fill place cells ((i, v) :: rest) = Instr.fill place cells' rest := by
 refine ⟨v.cells.zipIdx.foldl (fun cs (x : Value × Nat) => cs.setIfInBounds (off + x.2) x.1) cells, ?_, ?_⟩
 · rw [← Array.foldl_toList]
   have := yK off v.cells.toList 0 cells (by simpa using hf)
   simpa using this
 · simp only [Instr.fill, hp]
   rw [if_neg (by simp; omega)]
section
variable {P : Program} {c : Cx} {w : World}
theorem ZK : ∀ (fs : List Field), fs.all (fun f => (P.info? f.type).isSome) = true → fs.mapM (fun f => (P.info? f.type).map fun i => (f.offset, i.size)) = some (fs.map fun f => (f.offset, Qx P f.type))
 | [], _ => rfl
 | f :: fs, h => by
   simp only [List.all_cons, Bool.and_eq_true] at h
   obtain ⟨i, hi⟩ := Option.isSome_iff_exists.1 h.1
   have ih := ZK fs h.2
   simp [List.mapM_cons, hi, ih, Qx]
theorem jzf {t : Nat} {fs : Array Field} (hfs : P.underlying t = some (.struct fs)) : ∀ {vs : List (Nat × AV)} {us : List (Nat × Value)} {ps : List (Nat × List AV)} {acc : List AV} {cells : Array Value},
 QM P t vs = some ps → vs.map (·.1) = us.map (·.1) → VAs P c (vs.map (·.2)) (us.map (·.2)) → VAs P c acc cells.toList → acc.length = (jy P t).length →
 ∃ cells', Instr.fill ((fs.toList.map fun f => (f.offset, Qx P f.type)).toArray[·]?) cells us = some cells' ∧ VAs P c (Qyc ps acc) cells'.toList
 | [], [], ps, acc, cells, h, _, _, ha, _ => by
   simp only [QM, Option.some.injEq] at h
   subst h
   exact ⟨cells, rfl, ha⟩
 | (i, v) :: vs, [], ps, acc, cells, h, h1, _, _, _ => by simp at h1
 | [], (i, v) :: us, ps, acc, cells, h, h1, _, _, _ => by simp at h1
 | (i, v) :: vs, (j, u) :: us, ps, acc, cells, h, h1, h2, ha, hl => by
   simp only [List.map_cons, List.cons.injEq] at h1
   obtain ⟨rfl, h1⟩ := h1
   simp only [List.map_cons, VAs] at h2
   obtain ⟨_, _, e, hu, hus⟩ := h2
   cases e
   rw [QM] at h
   split at h
   · rename_i off ft r hft hr
     split at h
     · rename_i hg
       cases h
       simp only [Bool.and_eq_true, beq_iff_eq, decide_eq_true_eq] at hg
       obtain ⟨⟨g1, g2⟩, g3⟩ := hg
       obtain ⟨hc, h1c⟩ := QL hu g2
       have hsz : u.cells.size = Qx P ft := by rw [← g1, ← hc.length, Array.length_toList]
       have hcl : cells.size = (jy P t).length := by rw [← hl, ← ha.length, Array.length_toList]
       have hplace : (fs.toList.map fun f => (f.offset, Qx P f.type)).toArray[i]? = some (off, u.cells.size) := by
        unfold ZM at hft
        rw [hfs] at hft
        simp only at hft
        split at hft
        · rename_i fd hfd
          cases hft
          simp [hfd, hsz]
        · cases hft
       obtain ⟨cells', e1, e2⟩ := jK _ cells i off u us hplace (by omega)
       rw [e2]
       refine jzf hfs (ps := r) (acc := jx acc off v.cells) hr h1 hus (by rw [e1]; exact VAs.spl ha hc off) ?_
       rw [Qp _ _ _ (by rw [hl, g1]; exact g3), hl]
     · cases h
   · cases h
end
section
variable {P : Program} {X : Out} {s : St} {mu : Nat → Option Nat} {ka : Nat → Nat} {cst : List (List Value)} {act : Act} {a : List Value} {w : World} {E : Env} {fr : Nat} {o : Oper} {p : AV × List Eff} {K : Act → World → Prop} {Q : Exit → Act → World → Prop}
theorem yzm (h : Rel E.P X s mu ka cst act.tmps.toList w) {t : Nat} {parts : Array (Nat × Operand)} (ho : o.op = .build t parts) (hp : (evOp E fr o).val s.view = some p) (hK : Next E.P X (s.app o.dst p) cst act K) : o.wp E.P act w K Q := by
 simp only [evOp, ho] at hp
 obtain ⟨vs, h1, hp1⟩ := val_bind hp
 clear hp
 obtain ⟨e1, e2⟩ := h.parts h1
 split at hp1
 · rename_i ps hps
   obtain ⟨hg, hp2⟩ := Qy hp1
   obtain rfl := Zx hp2
   simp only [Bool.and_eq_true] at hg
   obtain ⟨i, z, hi, hz, hv, hki, hks, _⟩ := yf hg.1
   have hkn := hg.2
   unfold QzO at hkn
   split at hkn
   · rename_i fs hfs
     have hpl := ZK fs.toList hkn
     have hlz : ((jy E.P t).map QW).length = (jy E.P t).length := by simp
     obtain ⟨cells', g1, g2⟩ := jzf (c := cx E.P X s.mem mu ka w) (us := parts.toList.map fun x => (x.1, act.eval x.2)) hfs hps (by rw [e1]; simp) (by rw [List.map_map]; exact e2) (hv _) hlz
     refine yx (u := .agg cells') h ?_ (by simp only [VA]; exact ⟨cells'.toList, by simp, g2⟩) hK
     have hb : E.P.built t (parts.map fun (i, x) => (i, act.eval x)).toList = some cells' := by
      unfold Program.built
      rw [hi, hfs]
      simp only [hz, hpl]
      rw [Array.toList_map]
      exact g1
     simp only [execOp, ho, Sem.run_bind, run_build w t _ cells' hb, Result.andThen_ok, Sem.run_pure]
   · cases hkn
 · simp [Rd.val] at hp1
theorem Rel.grow (h : Rel P X s mu ka cst a w) {w' : World} (hb : Below w.heap.size w w') : (cx P X s.mem mu ka w).Le (cx P X s.mem mu ka w') ∧ Rel P X s mu ka cst a w' := by
 have hl : (cx P X s.mem mu ka w).Le (cx P X s.mem mu ka w') :=
  ⟨fun b o u hc hs => ⟨(hb.cell (World.block_lt_of_cell? _ _ hc)).trans hc, hs⟩, fun _ _ q => q, fun _ _ q => ⟨q, rfl, rfl⟩⟩
 refine ⟨hl, h.turn hl (h.bel.trans (hb.mono h.size)) h.blk h.inj fun id ob hf => ?_⟩
 rcases h.obs id ob hf with ⟨b, hb1, ho⟩ | q
 · exact .inl ⟨b, hb1, ho.le hl fun hlv => hb.block b (zS ho hlv)⟩
 · exact .inr q
theorem Zyy {S : Nat → Nat → Prop} {t : Nat} {q : PV} {u : Value} (hc : cfT P t q) (hv : VP P w S q u) : VPs P w S q.cells u.cells.toList := by
 have single : q.cells = [q] → q.one = true → VPs P w S q.cells u.cells.toList := by
  intro e h1
  rw [e, jzw (VP.one hv h1)]
  simp only [VPs]
  exact ⟨u, [], rfl, hv, rfl⟩
 cases q with
 | agg cs =>
   simp only [VP] at hv
   obtain ⟨vs, rfl, hvs⟩ := hv
   exact hvs
 | undef => obtain ⟨_, k, _, hk⟩ := hc; exact absurd hk.one (by simp [PV.one])
 | tup vs => obtain ⟨_, k, _, hk⟩ := hc; exact absurd hk.one (by simp [PV.one])
 | int k n => exact single rfl rfl
 | bool b => exact single rfl rfl
 | str b => exact single rfl rfl
 | list t xs => exact single rfl rfl
 | fn f => exact single rfl rfl
 | nilfn => exact single rfl rfl
 | nilp => exact single rfl rfl
 | nili => exact single rfl rfl
theorem YK {m0 : List (Nat × Ob)} {v0 : View} (hv0 : v0.find = fun id => Zz id m0) {e n : Nat} (hok : (jy P e).length = Qx P e) : ∀ {vs : List (Nat × AV)} {us : List (Nat × Value)} {i : Nat} {s : St} {q : List (List PV) × List Eff} {cells : Array Value},
 Rel P X s mu ka cst a w → Dem m0 s.mem → (yzx P e i vs).val v0 = some q → vs.map (·.1) = us.map (·.1) → VAs P (cx P X s.mem mu ka w) (vs.map (·.2)) (us.map (·.2)) → cells.size = n * Qx P e → i + vs.length = n →
 Purged P X s m0 (Qs s.mem q.2) mu ka cst a w ∧ (∀ x ∈ q.1, cfs (jy P e) x) ∧ q.1.length = vs.length ∧
  ∃ (cells' : Array Value) (ys : List Value), Instr.fill (fun i => some (i * Qx P e, Qx P e)) cells us = some cells' ∧ cells'.toList = cells.toList.take (i * Qx P e) ++ ys ∧ VPss P w (Smut P X.S0 (Qs s.mem q.2) mu) q.1 ys
 | [], [], i, s, q, cells, h, hd, hp, _, _, hc, hn => by
   simp only [yzx, Rd.val, Option.some.injEq] at hp
   subst hp
   simp only [List.length_nil, Nat.add_zero] at hn
   subst hn
   refine ⟨Purged.refl h hd, by simp, rfl, cells, [], rfl, ?_, by simp [VPss]⟩
   rw [List.append_nil, List.take_of_length_le (by simp [hc])]
 | (j, v) :: vs, [], i, s, q, cells, h, hd, hp, h1, _, _, _ => by simp at h1
 | [], (j, v) :: us, i, s, q, cells, h, hd, hp, h1, _, _, _ => by simp at h1
 | (j, v) :: vs, (j', u) :: us, i, s, q, cells, h, hd, hp, h1, h2, hc, hn => by
   simp only [List.map_cons, List.cons.injEq] at h1
   obtain ⟨rfl, h1⟩ := h1
   simp only [List.map_cons, VAs] at h2
   obtain ⟨_, _, ee, hu, hus⟩ := h2
   cases ee
   simp only [yzx] at hp
   obtain ⟨hij, hp1⟩ := Qy hp
   obtain rfl := eq_of_beq hij
   obtain ⟨p1, g1, hp2⟩ := val_bind hp1
   obtain ⟨p2, g2, hp3⟩ := val_bind hp2
   simp only [Rd.val, Option.some.injEq] at hp3
   clear hp hp1 hp2
   subst hp3
   simp only [List.length_cons] at hn
   obtain ⟨k1, k2, k3⟩ := qB h hv0 hd g1 hu
   have hcell := Zyy k3 k2
   have hsz : u.cells.size = Qx P e := by rw [← hok, ← k3.cells.length, ← hcell.length, Array.length_toList]
   have hle : (i + 1) * Qx P e ≤ n * Qx P e := Nat.mul_le_mul_right _ (by omega)
   rw [Nat.add_mul, Nat.one_mul] at hle
   obtain ⟨cells1, e1, e2⟩ := jK (fun i => some (i * Qx P e, Qx P e)) cells i (i * Qx P e) u us (by rw [hsz]) (by omega)
   have hc1 : cells1.size = n * Qx P e := by
    rw [← Array.length_toList, e1, Qp _ _ _ (by simp only [Array.length_toList]; omega), Array.length_toList, hc]
   obtain ⟨m1, m2, m3, cells', ys, m4, m5, m6⟩ := YK hv0 hok k1.rel k1.dem g2 h1 (VAs.le k1.le _ _ hus) hc1 (by omega)
   rw [jp]
   refine ⟨⟨k1.le.trans m1.le, m1.rel, m1.dem⟩, ?_, by simp [m3], cells', u.cells.toList ++ ys, by rw [e2]; exact m4, ?_, ?_⟩
   · intro x hx
     rcases List.mem_cons.1 hx with rfl | hx
     · exact k3.cells
     · exact m2 x hx
   · rw [m5, e1, ← List.append_assoc]
     congr 1
     rw [Nat.add_mul, Nat.one_mul, ← hsz]
     have := qK cells.toList (i * u.cells.size) u.cells.toList (by rw [Array.length_toList, hsz]; omega)
     simpa using this
   · simp only [VPss]
     exact ⟨_, _, rfl, VPs.keep m1.le.keep _ _ hcell, m6⟩
theorem zzK {id : Nat} : ∀ {vs : List (Nat × AV)} {i : Nat} {offs : List Nat}, j5 id i vs = some offs → offs.length = vs.length
 | [], _, _, h => by simp only [j5, Option.some.injEq] at h; subst h; rfl
 | (j, v) :: vs, i, offs, h => by
   unfold j5 at h
   split at h
   · rename_i id' off r _ h2
     split at h
     · cases h
       simp [zzK h2]
     · cases h
   · cases h
theorem qyb {c : Cx} {vs : List (Nat × AV)} {us : List (Nat × Value)} {q : Nat × List Nat} (h : zzN vs = some q) (hv : VAs P c (vs.map (·.2)) (us.map (·.2))) : ∃ b, c.mu q.1 = some b ∧ j5 q.1 0 vs = some q.2 ∧ 0 < vs.length := by
 unfold zzN at h
 split at h
 · cases h
 · rename_i j v l
   split at h
   · rename_i id off
     split at h
     · rename_i r hr
       cases h
       simp only [List.map_cons, VAs, VA] at hv
       obtain ⟨_, _, _, ⟨b, hb, _⟩, _⟩ := hv
       exact ⟨b, hb, hr, by simp⟩
     · cases h
   · cases h
theorem Zzf {c : Cx} {id b n : Nat} (hb : c.mu id = some b) : ∀ {vs : List (Nat × AV)} {us : List (Nat × Value)} {i : Nat} {offs : List Nat} {cells : Array Value},
 j5 id i vs = some offs → vs.map (·.1) = us.map (·.1) → VAs P c (vs.map (·.2)) (us.map (·.2)) → cells.size = n → i + vs.length = n →
 ∃ cells' : Array Value, Instr.fill (fun i => some (i * 1, 1)) cells us = some cells' ∧ cells'.toList = cells.toList.take i ++ offs.map fun o => .pointer (some ⟨b, o, none⟩)
 | [], [], i, offs, cells, hp, _, _, hc, hn => by
   simp only [j5, Option.some.injEq] at hp
   subst hp
   simp only [List.length_nil, Nat.add_zero] at hn
   subst hn
   refine ⟨cells, rfl, ?_⟩
   rw [List.map_nil, List.append_nil, List.take_of_length_le (by simp [hc])]
 | (j, v) :: vs, [], i, offs, cells, hp, h1, _, _, _ => by simp at h1
 | [], (j, v) :: us, i, offs, cells, hp, h1, _, _, _ => by simp at h1
 | (j, v) :: vs, (j', u) :: us, i, offs, cells, hp, h1, h2, hc, hn => by
   simp only [List.map_cons, List.cons.injEq] at h1
   obtain ⟨rfl, h1⟩ := h1
   simp only [List.map_cons, VAs] at h2
   obtain ⟨_, _, ee, hu, hus⟩ := h2
   cases ee
   unfold j5 at hp
   split at hp
   · rename_i id' off r hr
     split at hp
     · rename_i hij
       cases hp
       simp only [Bool.and_eq_true, beq_iff_eq] at hij
       obtain ⟨rfl, rfl⟩ := hij
       simp only [VA] at hu
       obtain ⟨b', hb', rfl⟩ := hu
       rw [hb] at hb'
       cases hb'
       simp only [List.length_cons] at hn
       have hce : (Value.pointer (some ⟨b, off, none⟩)).cells = #[Value.pointer (some ⟨b, off, none⟩)] := rfl
       obtain ⟨cells1, f1, f2⟩ := jK (fun i => some (i * 1, 1)) cells i i (.pointer (some ⟨b, off, none⟩)) us (by rw [hce, Nat.mul_one]; rfl) (by rw [hce]; show i + 1 ≤ _; omega)
       have hce' : (Value.pointer (some ⟨b, off, none⟩)).cells.toList = [Value.pointer (some ⟨b, off, none⟩)] := rfl
       rw [hce'] at f1
       have hc1 : cells1.size = n := by
        rw [← Array.length_toList, f1, Qp _ _ _ (by simp only [Array.length_toList, List.length_cons, List.length_nil]; omega), Array.length_toList, hc]
       obtain ⟨cells', m4, m5⟩ := Zzf hb hr h1 hus hc1 (by omega)
       refine ⟨cells', by rw [f2]; exact m4, ?_⟩
       rw [m5, f1]
       have := qK cells.toList i [Value.pointer (some ⟨b, off, none⟩)] (by rw [Array.length_toList]; omega)
       simp only [List.length_cons, List.length_nil, Nat.zero_add] at this
       rw [this, List.map_cons, List.append_assoc, List.singleton_append]
     · cases hp
   · cases hp
theorem ZX {t e n : Nat} {i : TypeInfo} {z : Value} {parts : Array (Nat × Value)} {cells : Array Value} (hu : P.underlying t = some (.slice e)) (hi : P.info? e = some i) (hz : i.zero = some z) (hlim : ¬ (n * i.size > 2 ^ 24))
 (hf : Instr.fill (fun j => some (j * i.size, i.size)) ((Array.range (n * i.size)).map ((if n * i.size = 0 then (#[] : Array Value) else z.cells)[· % (if n * i.size = 0 then (#[] : Array Value) else z.cells).size]!)) parts.toList = some cells) :
 (Instr.buildSlice t n parts).run P w = .ok (.slice (some ⟨w.heap.size, 0, none⟩) n n) (w.alloc (.cells cells e)) := by
 unfold Instr.buildSlice
 simp only [Sem.run_bind, qu hu, Result.andThen_ok, Yj hi]
 have hs : Qx P e = i.size := by simp [Qx, hi]
 rw [hs, if_neg hlim]
 by_cases h0 : n * i.size = 0
 · simp only [h0, if_true] at hf ⊢
   simp only [Sem.run_pure, Result.andThen_ok, Sem.run_bind, hf, newRow, run_newObj, World.alloc_eq]
 · simp only [h0, if_false] at hf ⊢
   have hzv : (zeroValue e).run P w = .ok z w := by simp [zeroValue, typeInfo, hi, hz]
   simp only [Sem.run_pure, Result.andThen_ok, Sem.run_bind, hzv, hf, newRow, run_newObj, World.alloc_eq]
theorem QP (h : Rel E.P X s mu ka cst act.tmps.toList w) {t n : Nat} {parts : Array (Nat × Operand)} (ho : o.op = .buildSlice t n parts) (hp : (evOp E fr o).val s.view = some p) (hK : Next E.P X (s.app o.dst p) cst act K) : o.wp E.P act w K Q := by
 simp only [evOp, ho] at hp
 obtain ⟨vs, h1, hp1⟩ := val_bind hp
 clear hp
 obtain ⟨e1, e2⟩ := h.parts h1
 split at hp1
 · rename_i e he
   obtain ⟨hg, hp2⟩ := Qy hp1
   simp only [Bool.and_eq_true, beq_iff_eq, decide_eq_true_eq, okE, bne_iff_ne, ne_eq] at hg
   obtain ⟨⟨⟨g1, g2⟩, g3, g4⟩, g5⟩ := hg
   obtain ⟨i, z, hi, hz, hv, hki, hks, _⟩ := yf g2
   have hu := Jp he
   have hsz : i.size = Qx E.P e := by simp [Qx, hi]
   split at hp2
   · rename_i pq hpts
     obtain ⟨id, offs⟩ := pq
     obtain ⟨h1e, hp3⟩ := Qy hp2
     obtain rfl := Zx hp3
     rw [Ql] at hK
     have h1e : Qx E.P e = 1 := eq_of_beq h1e
     obtain ⟨b, hb, hof, hn0⟩ := qyb (us := parts.toList.map fun x => (x.1, act.eval x.2)) hpts (by rw [List.map_map]; exact e2)
     obtain ⟨cells', m4, m5⟩ := Zzf (c := cx E.P X s.mem mu ka w) (us := parts.toList.map fun x => (x.1, act.eval x.2)) (n := n) hb hof (by rw [e1]; simp) (by rw [List.map_map]; exact e2)
      (cells := (Array.range (n * i.size)).map ((if n * i.size = 0 then (#[] : Array Value) else z.cells)[· % (if n * i.size = 0 then (#[] : Array Value) else z.cells).size]!)) (by simp [hsz, h1e]) (by omega)
     simp only [List.take_zero, List.nil_append] at m5
     have hbw : Below w.heap.size w (w.alloc (.cells cells' e)) := (Below.refl _ w).alloc (Nat.le_refl _) _
     obtain ⟨n1, n2⟩ := h.grow hbw
     have hol : offs.length = n := by rw [zzK hof, g1]
     refine Qo (u := .slice (some ⟨w.heap.size, 0, none⟩) n n) (w' := w.alloc (.cells cells' e)) ?_ n2 ?_ hK
     · have hlim : ¬ (n * i.size > 2 ^ 24) := by rw [hsz]; omega
       have m4' : Instr.fill (fun j => some (j * i.size, i.size)) ((Array.range (n * i.size)).map ((if n * i.size = 0 then (#[] : Array Value) else z.cells)[· % (if n * i.size = 0 then (#[] : Array Value) else z.cells).size]!)) (parts.map fun (i, x) => (i, act.eval x)).toList = some cells' := by
        rw [Array.toList_map, hsz, h1e]
        simp only [Nat.mul_one]
        rw [hsz, h1e] at m4
        simp only [Nat.mul_one] at m4
        exact m4
       have := ZX (w := w) hu hi hz hlim m4'
       simp only [execOp, ho, Sem.run_bind, this, Result.andThen_ok, Sem.run_pure]
     · simp only [VA]
       refine ⟨b, some ⟨w.heap.size, 0, none⟩, hb, by rw [hol], .inr ⟨w.heap.size, 0, rfl, fun j u hj => ?_, fun j hj => ?_⟩⟩
       · show (w.alloc _).cell? _ = _
         rw [World.cell?_alloc_new, Nat.zero_add, ← hj, ← m5]
         simp
       · intro hs
         have := h.mut_lt hs
         omega
   obtain ⟨q, h2, hp3⟩ := val_bind hp2
   simp only [Rd.val, Option.some.injEq] at hp3
   clear hp1 hp2
   subst hp3
   obtain ⟨m1, m2, m3, cells', ys, m4, m5, m6⟩ := YK (m0 := s.mem) (v0 := s.view) (n := n) (us := parts.toList.map fun x => (x.1, act.eval x.2)) rfl g3 h (Dem.refl _) h2 (by rw [e1]; simp) (by rw [List.map_map]; exact e2)
    (cells := (Array.range (n * i.size)).map ((if n * i.size = 0 then (#[] : Array Value) else z.cells)[· % (if n * i.size = 0 then (#[] : Array Value) else z.cells).size]!)) (by simp [hsz]) (by omega)
   simp only [Nat.zero_mul, List.take_zero, List.nil_append] at m5
   have hbw : Below w.heap.size w (w.alloc (.cells cells' e)) := (Below.refl _ w).alloc (Nat.le_refl _) _
   obtain ⟨n1, n2⟩ := m1.rel.grow hbw
   rw [Ql] at hK
   refine Qo (u := .slice (some ⟨w.heap.size, 0, none⟩) n n) (w' := w.alloc (.cells cells' e)) ?_ n2 ?_ hK
   · have hlim : ¬ (n * i.size > 2 ^ 24) := by rw [hsz]; omega
     have m4' : Instr.fill (fun j => some (j * i.size, i.size)) ((Array.range (n * i.size)).map ((if n * i.size = 0 then (#[] : Array Value) else z.cells)[· % (if n * i.size = 0 then (#[] : Array Value) else z.cells).size]!)) (parts.map fun (i, x) => (i, act.eval x)).toList = some cells' := by
      rw [Array.toList_map]
      rw [← hsz] at m4
      exact m4
     have := ZX (w := w) hu hi hz hlim m4'
     simp only [execOp, ho, Sem.run_bind, this, Result.andThen_ok, Sem.run_pure]
   · simp only [VA]
     refine ⟨some ⟨w.heap.size, 0, none⟩, ys, by rw [m3, g1], m2, .inr ⟨w.heap.size, 0, rfl, fun j u hj => ?_, fun j hj => ?_⟩, VPss.keep n1.keep _ _ m6⟩
     · show (w.alloc _).cell? _ = _
       rw [World.cell?_alloc_new, Nat.zero_add, ← hj, ← m5]
       simp
     · intro hs
       have := m1.rel.mut_lt hs
       omega
 · simp [Rd.val] at hp1
end
section
variable {P : Program} {c : Cx} {w : World}
theorem jyb {S : Nat → Nat → Prop} {k : K} {v : Value} (h : Qyz k v = true) (hk : k ≠ .any) : VP P w S (jT k) v ∧ cf k (jT k) := by
 have := Jzg (P := P) (c := ⟨w, S, fun _ => none, fun _ => 0, fun _ => none⟩) h
 cases k
 case any => exact absurd rfl hk
 case list t =>
  simp only [QW, VA] at this
  obtain ⟨A, us, rfl, h1, h2, h3⟩ := this
  refine ⟨?_, ⟨[], rfl⟩⟩
  simp only [jT, VP]
  exact ⟨A, 0, us, rfl, Nat.le_refl _, h1, h2, h3⟩
 all_goals
  simp only [QW, VA] at this
  refine ⟨this, ?_⟩
  simp [jT, cf]
theorem Yzf {S : Nat → Nat → Prop} : ∀ {ks : List K} {vs : List Value}, zc ks vs = true → (∀ k ∈ ks, k ≠ .any) → VPs P w S (ks.map jT) vs ∧ cfs ks (ks.map jT)
 | [], [], _, _ => by simp [VPs, cfs]
 | k :: ks, v :: vs, h, hk => by
   simp only [zc, Bool.and_eq_true] at h
   obtain ⟨g1, g2⟩ := jyb (P := P) (w := w) (S := S) h.1 (hk k (by simp))
   obtain ⟨g3, g4⟩ := Yzf (S := S) h.2 fun k' hk' => hk k' (by simp [hk'])
   simp only [List.map_cons, VPs]
   exact ⟨⟨v, vs, rfl, g1, g3⟩, g2, g4⟩
 | [], _ :: _, h, _ => by simp [zc] at h
 | _ :: _, [], h, _ => by simp [zc] at h
theorem yzK {t : Nat} (h : JzO P t = true) : ∀ k ∈ jy P t, k ≠ .any := by
 intro k hk
 have := List.all_eq_true.1 h k hk
 rintro rfl
 simp at this
theorem qzK {S : Nat → Nat → Prop} {t : Nat} {z : Array Value} (hz : zc (jy P t) z.toList = true) (hn : JzO P t = true) (n m : Nat) (hnm : n ≤ m) :
 VPss P w S (List.replicate n (Yyz P t)) ((madeCells z (m * (jy P t).length)).toList.take (n * (jy P t).length)) ∧ ∀ e ∈ List.replicate n (Yyz P t), cfs (jy P t) e := by
 obtain ⟨g1, g2⟩ := Yzf (P := P) (w := w) (S := S) hz (yzK hn)
 have hcl : ∀ e ∈ List.replicate n (Yyz P t), cfs (jy P t) e := fun e he => by rw [List.eq_of_mem_replicate he]; exact g2
 refine ⟨?_, hcl⟩
 have hzl : z.size = (jy P t).length := by rw [← Array.length_toList, g1.length]; simp
 have hle : n * (jy P t).length ≤ m * (jy P t).length := Nat.mul_le_mul_right _ hnm
 refine VPss.of_get (n := (jy P t).length) (by simp [size_madeCells, hle]) (fun e he => (hcl e he).length) ?_
 intro i e hi
 have hin : i < n := by
  have := (List.getElem?_eq_some_iff.1 hi).1
  simpa using this
 obtain rfl := List.eq_of_mem_replicate (List.mem_of_getElem? hi)
 have hi1 : (i + 1) * (jy P t).length ≤ n * (jy P t).length := Nat.mul_le_mul_right _ hin
 rw [Nat.add_mul, Nat.one_mul] at hi1
 have e1 : (((madeCells z (m * (jy P t).length)).toList.take (n * (jy P t).length)).drop (i * (jy P t).length)).take (jy P t).length = z.toList := by
  apply List.ext_getElem?
  intro j
  rw [List.getElem?_take, List.getElem?_drop, List.getElem?_take]
  by_cases hj : j < (jy P t).length
  · rw [if_pos hj, if_pos (by omega)]
    have hjm : i * (jy P t).length + j < m * (jy P t).length := by omega
    have hz' : j < z.size := by omega
    have hmod : (i * (jy P t).length + j) % z.size = j := by
     rw [hzl, Nat.mul_comm, Nat.mul_add_mod, Nat.mod_eq_of_lt hj]
    simp [madeCells, hjm, hmod, hz']
  · rw [if_neg hj]
    exact (List.getElem?_eq_none (by simp; omega)).symm
 rw [e1]
 exact g1
end
section
variable {P : Program} {X : Out} {s : St} {mu : Nat → Option Nat} {ka : Nat → Nat} {cst : List (List Value)} {act : Act} {a : List Value} {w : World} {E : Env} {fr : Nat} {o : Oper} {p : AV × List Eff} {K : Act → World → Prop} {Q : Exit → Act → World → Prop}
theorem QK (h : Rel E.P X s mu ka cst act.tmps.toList w) {t : Nat} {x y : Operand} (ho : o.op = .makeSlice t x y) (hp : (evOp E fr o).val s.view = some p) (hK : Next E.P X (s.app o.dst p) cst act K) : o.wp E.P act w K Q := by
 simp only [evOp, ho] at hp
 obtain ⟨lv, h1, hp1⟩ := val_bind hp
 obtain ⟨cv, h2, hp2⟩ := val_bind hp1
 clear hp hp1
 have hl := h.op h1
 have hc := h.op h2
 split at hp2
 · rename_i e k1 n k2 m he
   simp only [Rd.val] at hp2
   obtain ⟨hg, hp3⟩ := Qy hp2
   obtain ⟨hb, hp4⟩ := Zo hp3
   simp only [Rd.val, Option.some.injEq] at hp4
   clear hp2 hp3
   subst hp4
   simp only [Bool.and_eq_true, decide_eq_true_eq, okE, beq_iff_eq, bne_iff_ne, ne_eq] at hg hb
   obtain ⟨⟨⟨⟨g1, g2⟩, g3, g4⟩, g5⟩, g6⟩ := hg
   obtain ⟨⟨b1, b2⟩, b3⟩ := hb
   obtain ⟨i, z, hi, hz, hv, hki, hks, hzl⟩ := yf g2
   have hu := Jp he
   have hf := yl rfl g1
   have hl' := Jo hl
   have hc' := Jo hc
   simp only [VP] at hl' hc'
   simp only [hi] at g6
   have hm : m.toNat ≤ most := by unfold most at *; omega
   have hbytes : (i.bytes : Int) * m ≤ 281474976710656 := by
    have h3 : i.bytes * m.toNat ≤ 100000 * most := Nat.mul_le_mul g6 hm
    have h4 : (i.bytes : Int) * m = ((i.bytes * m.toNat : Nat) : Int) := by
     rw [Int.natCast_mul, Int.toNat_of_nonneg (by omega)]
    rw [h4]
    unfold most at h3
    omega
   have hr := run_make (P := E.P) w t e i z hu hi hz k1 k2 n m b1 b2 hbytes (by unfold most at b3; omega)
   obtain ⟨v1, v2⟩ := qzK (P := E.P) (w := w) (S := Smut E.P X.S0 s.mem mu) hzl g5 n.toNat m.toNat (by omega)
   obtain ⟨mu', ka', k1', k2', k3', k4', k5'⟩ := h.newRow (m := 1) (t := e) (k := m.toNat) (cs := madeCells z.cells (m.toNat * i.size)) hf rfl h.bel v2 g3 (by simp; omega) (by unfold maxLen; unfold most at hm; omega)
    (by rw [size_madeCells, hki]) (by rw [List.length_replicate, ← hki]; exact v1)
   rw [Q6] at hK
   refine Qo (u := .slice (some ⟨w.heap.size, 0, none⟩) n.toNat m.toNat) ?_ k5' ?_ hK
   · simp only [execOp, ho, hl', hc', Sem.run_bind, hr, Result.andThen_ok, Sem.run_pure]
   · simp only [VA]
     refine ⟨e, n.toNat, ?_, .inl ⟨w.heap.size, k1', by show _ = Value.slice _ _ (ka' _); rw [k2']⟩⟩
     show rtOf _ _ = _
     rw [Jn (by rw [Yy, if_pos rfl])]
     simp
 · simp [Rd.val] at hp2
theorem YV {v0 : View} {c : Cx} {v : Option AV} {d : Nat} {n : Int} (h : (ZC v d).val v0 = some n) {x : Option Operand} (hx : (optO x).val v0 = some v) (hop : ∀ y a, x = some y → v = some a → VA P c a (act.eval y)) :
 (x = none ∧ n = d) ∨ ∃ k, x.map act.eval = some (.int k n) := by
 unfold ZC at h
 cases x with
 | none =>
   simp only [optO, Rd.val, Option.some.injEq] at hx
   subst hx
   simp only [Rd.val, Option.some.injEq] at h
   exact .inl ⟨rfl, h.symm⟩
 | some y =>
   simp only [optO] at hx
   obtain ⟨a, h1, h2⟩ := val_bind hx
   simp only [Rd.val, Option.some.injEq] at h2
   subst h2
   split at h
   · rename_i e; cases e
   · rename_i k n' e
     cases e
     simp only [Rd.val, Option.some.injEq] at h
     subst h
     have := hop y _ rfl rfl
     simp only [VA, VP] at this
     exact .inr ⟨k, by simp [this]⟩
   · simp [Rd.val] at h
theorem YB {isS : Bool} {len cap l h : Nat} {lo hi : Option Value} (hlo : (lo = none ∧ l = 0) ∨ ∃ k, lo = some (.int k l)) (hhi : (hi = none ∧ h = len) ∨ ∃ k, hi = some (.int k h)) (h1 : l ≤ h) (h2 : h ≤ cap) :
 (Instr.sliceBounds isS len cap lo hi none).run P w = .ok (l, h, cap) w := by
 rcases hlo with ⟨rfl, rfl⟩ | ⟨k, rfl⟩ <;> rcases hhi with ⟨rfl, rfl⟩ | ⟨k', rfl⟩ <;>
  simp [Instr.sliceBounds, Instr.sliceBound, Go.asIntOf, h1, h2]
theorem Rel.op? (h : Rel P X s mu ka cst act.tmps.toList w) {x : Option Operand} {v : Option AV} (hx : (optO x).val s.view = some v) : ∀ y a, x = some y → v = some a → VA P (cx P X s.mem mu ka w) a (act.eval y) := by
 intro y a e1 e2
 subst e1; subst e2
 simp only [optO] at hx
 obtain ⟨a', h1, h2⟩ := val_bind hx
 simp only [Rd.val, Option.some.injEq] at h2
 cases h2
 exact h.op h1
theorem VPss.sub {S : Nat → Nat → Prop} {xs : List (List PV)} {us : List Value} {n : Nat} (h : VPss P w S xs us) (hn : ∀ e ∈ xs, e.length = n) (l k : Nat) (hk : k ≤ xs.length) :
 VPss P w S ((xs.take k).drop l) ((us.take (k * n)).drop (l * n)) := by
 have hl := h.length hn
 have hkn : k * n ≤ xs.length * n := Nat.mul_le_mul_right _ hk
 refine VPss.of_get (n := n) ?_ (fun e he => hn e (List.mem_of_mem_take (List.mem_of_mem_drop he))) fun i e hi => ?_
 · simp only [List.length_drop, List.length_take, Nat.min_eq_left hk, Nat.sub_mul]
   omega
 · rw [List.getElem?_drop, List.getElem?_take] at hi
   split at hi
   · rename_i hlt
     have := h.get hn hi
     have h3 : (l + i + 1) * n ≤ k * n := Nat.mul_le_mul_right _ hlt
     simp only [Nat.add_mul, Nat.one_mul] at h3 this
     have e9 : List.take n (List.drop (i * n) (List.drop (l * n) (List.take (k * n) us))) = List.take n (List.drop (l * n + i * n) us) := by
      rw [List.drop_drop]
      apply List.ext_getElem?
      intro j
      simp only [List.getElem?_take, List.getElem?_drop]
      by_cases c : j < n
      · rw [if_pos c, if_pos c, if_pos (by omega)]
      · rw [if_neg c, if_neg c]
     rw [e9]
     exact this
   · cases hi
theorem Qb (h : Rel E.P X s mu ka cst act.tmps.toList w) {t e u : Nat} {xs : List (List PV)} {es : List Eff} {x : Operand} {lo hi : Option Operand} {lv hv : Option AV} (ho : o.op = .slice t x lo hi none) (ht : E.P.underlying t = some (.slice e))
 (hlo : (optO lo).val s.view = some lv) (hhi : (optO hi).val s.view = some hv) {mem' : List (Nat × Ob)} (hm : mem' = Qs s.mem es) (hle : (cx E.P X s.mem mu ka w).Le (cx E.P X mem' mu ka w)) (hr : Rel E.P X { s with mem := mem' } mu ka cst act.tmps.toList w)
 (hx : VP E.P w (Smut E.P X.S0 mem' mu) (.list u xs) (act.eval x)) (hp : (Yzh.cut E.P lv hv e u xs es).val s.view = some p) (hK : Next E.P X (s.app o.dst p) cst act K) : o.wp E.P act w K Q := by
 unfold Yzh.cut at hp
 obtain ⟨hg, hp1⟩ := Qy hp
 obtain ⟨l, h1, hp2⟩ := val_bind hp1
 obtain ⟨k, h2, hp3⟩ := val_bind hp2
 obtain ⟨hb, hp4⟩ := Zo hp3
 simp only [Rd.val, Option.some.injEq] at hp4
 clear hp hp1 hp2 hp3
 subst hp4
 simp only [Bool.and_eq_true, decide_eq_true_eq, okE, beq_iff_eq, bne_iff_ne, ne_eq] at hg hb
 obtain ⟨rfl, hsz, hnz⟩ := hg
 obtain ⟨⟨b1, b2⟩, b3⟩ := hb
 obtain ⟨i, hinf⟩ : ∃ i, E.P.info? u = some i := by
  cases hq : E.P.info? u with
  | none => simp [Qx, hq] at hnz
  | some i => exact ⟨i, rfl⟩
 obtain ⟨l', rfl⟩ := Int.eq_ofNat_of_zero_le b1
 obtain ⟨k', rfl⟩ := Int.eq_ofNat_of_zero_le (show 0 ≤ k by omega)
 have hlb := YV (P := E.P) (act := act) (c := cx E.P X s.mem mu ka w) h1 hlo (h.op? hlo)
 have hhb := YV (P := E.P) (act := act) (c := cx E.P X s.mem mu ka w) h2 hhi (h.op? hhi)
 simp only [VP] at hx
 obtain ⟨A, cap, us, e1, e2, e3, e4, e5⟩ := hx
 have hrun := YB (P := E.P) (w := w) (isS := true) (len := xs.length) (cap := cap) (l := l') (h := k') (lo := lo.map act.eval) (hi := hi.map act.eval)
  (hlb.imp (fun ⟨q1, q2⟩ => ⟨by rw [q1]; rfl, by omega⟩) id) (hhb.imp (fun ⟨q1, q2⟩ => ⟨by rw [q1]; rfl, by omega⟩) id) (by omega) (by omega)
 rw [Ql, ← hm] at hK
 refine Qo (u := .slice (if cap = l' then A else A.map (·.add (l' * Qx E.P u))) (k' - l') (cap - l')) ?_ hr ?_ hK
 · have hri := Yj (P := E.P) (w := w) hinf
   simp only [execOp, ho, Option.map_none, Instr.sliceAt, Sem.run_bind, qu ht, Result.andThen_ok, Instr.slice, e1, hrun, hri, Sem.run_pure]
 · simp only [VA, VP, Int.toNat_natCast]
   have hlen : ((xs.take k').drop l').length = k' - l' := by simp; omega
   have hnn : ∀ e ∈ xs, e.length = (jy E.P u).length := fun e he => (e3 e he).length
   refine ⟨_, _, _, by rw [hlen], by rw [hlen]; omega, fun e he => e3 e (List.mem_of_mem_take (List.mem_of_mem_drop he)), ?_, e5.sub hnn l' k' (by omega)⟩
   rcases e4 with rfl | ⟨b, o1, rfl, hra, hst⟩
   · exact .inl (by simp)
   · by_cases hcl : cap = l'
     · refine .inl ?_
       have : k' = l' := by omega
       subst this
       exact List.drop_eq_nil_of_le (by simp; omega)
     · refine .inr ⟨b, o1 + l' * (jy E.P u).length, by simp [hcl, Addr.add_mid, hsz], fun j v hj => ?_, fun j hj => ?_⟩
       · rw [List.getElem?_drop, List.getElem?_take] at hj
         split at hj
         · rw [Nat.add_assoc]
           exact hra _ v hj
         · cases hj
       · rw [Nat.add_assoc]
         refine hst _ ?_
         simp only [List.length_drop, List.length_take] at hj
         omega
theorem qzm (h : Rel E.P X s mu ka cst act.tmps.toList w) {t : Nat} {x : Operand} {lo hi mx : Option Operand} (ho : o.op = .slice t x lo hi mx) (hp : (evOp E fr o).val s.view = some p) (hK : Next E.P X (s.app o.dst p) cst act K) : o.wp E.P act w K Q := by
 simp only [evOp, ho] at hp
 obtain ⟨v, h1, hp1⟩ := val_bind hp
 clear hp
 have hx := h.op h1
 cases mx with
 | none =>
   simp only at hp1
   obtain ⟨lv, h2, hp2⟩ := val_bind hp1
   obtain ⟨hv, h3, hp3⟩ := val_bind hp2
   clear hp1 hp2
   unfold Yzh at hp3
   split at hp3
   · rename_i str ht
     obtain ⟨l, g1, hp4⟩ := val_bind hp3
     obtain ⟨k, g2, hp5⟩ := val_bind hp4
     obtain ⟨hb, hp6⟩ := Zo hp5
     obtain rfl := Zx hp6
     clear hp3 hp4 hp5
     simp only [Bool.and_eq_true, decide_eq_true_eq] at hb
     obtain ⟨⟨b1, b2⟩, b3⟩ := hb
     obtain ⟨l', rfl⟩ := Int.eq_ofNat_of_zero_le b1
     obtain ⟨k', rfl⟩ := Int.eq_ofNat_of_zero_le (show 0 ≤ k by omega)
     have hlb := YV (P := E.P) (act := act) (c := cx E.P X s.mem mu ka w) g1 h2 (h.op? h2)
     have hhb := YV (P := E.P) (act := act) (c := cx E.P X s.mem mu ka w) g2 h3 (h.op? h3)
     have hx' := Jo hx
     simp only [VP] at hx'
     have hrun := YB (P := E.P) (w := w) (isS := false) (len := str.size) (cap := str.size) (l := l') (h := k') (lo := lo.map act.eval) (hi := hi.map act.eval)
      (hlb.imp (fun ⟨q1, q2⟩ => ⟨by rw [q1]; rfl, by omega⟩) id) (hhb.imp (fun ⟨q1, q2⟩ => ⟨by rw [q1]; rfl, by omega⟩) id) (by omega) (by omega)
     refine yx (u := .string (str.extract l' k')) h ?_ (by simp only [VA, VP, Int.toNat_natCast]) hK
     simp only [execOp, ho, Option.map_none, Instr.sliceAt, Sem.run_bind, qu ht, Result.andThen_ok, Instr.slice, hx', Option.isSome_none, Bool.false_eq_true, if_false, hrun, Sem.run_pure]
   · rename_i e u xs ht
     exact Qb h ho ht h2 h3 (mem' := s.mem) rfl (Cx.Le.refl _) h (Jo hx) hp3 hK
   · rename_i e u xs ht
     refine Qb h ho ht h2 h3 (mem' := s.mem) rfl (Cx.Le.refl _) h ?_ hp3 hK
     simp only [VA] at hx
     obtain ⟨A, us, g1, g2, g3, g4⟩ := hx
     simp only [VP]
     exact ⟨A, _, us, g1, Nat.le_refl _, g2, g3, g4⟩
   · rename_i e id ht
     simp only [Rd.val, View.row, St.view] at hp3
     cases hf : Zz id s.mem with
     | none => rw [hf] at hp3; simp [Rd.val] at hp3
     | some ob =>
       cases ob with
       | box cs => rw [hf] at hp3; simp [Rd.val] at hp3
       | chan q => rw [hf] at hp3; simp [Rd.val] at hp3
       | row m u xs =>
         rw [hf] at hp3
         simp only at hp3
         split at hp3
         · exact Qb h ho ht h2 h3 (mem' := s.mem) rfl (Cx.Le.refl _) h (h.ownList hf (by omega) hx) hp3 hK
         · exact Qb h ho ht h2 h3 (mem' := s.mem) rfl (Cx.Le.refl _) h (h.ownList hf (by omega) hx) hp3 hK
         · obtain ⟨hl, hr⟩ := h.demote hf
           exact Qb h ho ht h2 h3 (es := [.rset id 1 u xs]) (mem' := Yt id (.row 1 u xs) s.mem) rfl hl hr (hr.ownList (Jy id _ s.mem hf) (by omega) (VA.le hl _ _ hx)) hp3 hK
         · simp [Rd.val] at hp3
   · simp [Rd.val] at hp3
 | some m =>
   simp only at hp1
   obtain ⟨hg, hp2⟩ := Qy hp1
   obtain ⟨y, h2, hp3⟩ := val_bind hp2
   obtain rfl := Zx hp3
   clear hp1 hp2
   simp only [Bool.and_eq_true] at hg
   obtain ⟨⟨⟨g1, g2⟩, g3⟩, g4⟩ := hg
   obtain ⟨e, he, hok⟩ : ∃ e, zD E.P t = some e ∧ okE E.P e = true := by
    cases he : zD E.P t with
    | none => rw [he] at g4; cases g4
    | some e => rw [he] at g4; exact ⟨e, rfl, g4⟩
   have hu := Jp he
   simp only [okE, Bool.and_eq_true, bne_iff_ne, ne_eq] at hok
   have hlo : lo = none := by cases lo <;> simp_all
   subst hlo
   have zero_ : ∀ {q : Option Operand}, Zzh q = true → ∃ k, q = some (.const (.int k 0)) := by
    intro q hq
    unfold Zzh at hq
    split at hq
    · rename_i k n
      have : n = 0 := by simpa using hq
      subst this
      exact ⟨k, rfl⟩
    · cases hq
   obtain ⟨km, hm⟩ := zero_ g1
   obtain ⟨kh, hh⟩ := zero_ g2
   cases hm
   subst hh
   obtain ⟨A, cap, us, e1, e2, e3, e4, e5⟩ := Ye h h2 hx
   obtain ⟨i, hinf⟩ : ∃ i, E.P.info? e = some i := by
    cases hq : E.P.info? e with
    | none => exact absurd (by simp [Qx, hq]) hok.2
    | some i => exact ⟨i, rfl⟩
   have ez : ∀ k, act.eval (.const (.int k 0)) = .int k 0 := fun _ => rfl
   refine yx (u := .slice A 0 0) h ?_ (by simp only [VA]; exact ⟨A, [], rfl, by simp, .inl rfl, by simp [VPss]⟩) hK
   have hri := Yj (P := E.P) (w := w) hinf
   simp [execOp, ho, Instr.sliceAt, qu hu, Instr.slice, e1, Instr.sliceBounds, Instr.sliceBound, ez, Go.asIntOf, hri]
end
section
variable {P : Program} {X : Out} {s : St} {mu : Nat → Option Nat} {ka : Nat → Nat} {cst : List (List Value)} {act : Act} {a : List Value} {w : World} {E : Env} {fr : Nat} {o : Oper} {p : AV × List Eff} {K : Act → World → Prop} {Q : Exit → Act → World → Prop}
theorem YD (t tx ty e T : TypeId) (i : TypeInfo) (ht : P.underlying t = some (.slice e)) (hi : P.info? e = some i) (b sLen sCap : Nat) (vs : Array Value) (hg : w.heap[b]? = some (.cells vs T (0, 0))) (x : Value) (n : Nat) (news : List Value)
 (hs : Src P i.size tx x n news w) (hroom : sLen + n ≤ sCap) (hfit : sLen * i.size + news.length ≤ vs.size) :
 (Builtin.append_ #[t, tx] ty #[.slice (some ⟨b, 0, none⟩) sLen sCap, x]).run P w = .ok (.slice (some ⟨b, 0, none⟩) (sLen + n) sCap) (w.setRow b (jx vs.toList (sLen * i.size) news).toArray) := by
 have hst := run_storeCells_at P b (sLen * i.size) T news 0 vs w hg (by simpa using hfit) hs.one
 simp only [Nat.add_zero] at hst
 rcases hs.kind with ⟨e', hk⟩ | hk <;> simp [Builtin.append_, run_underlying ht, run_underlying hk, sizeOf, typeInfo, hi, hs.len, hroom, hs.cells, Addr.add_lit, hst, jx]
theorem Jb (t tx ty e : TypeId) (i : TypeInfo) (ht : P.underlying t = some (.slice e)) (hi : P.info? e = some i) (A : Option Addr) (x : Value) (hs : Src P i.size tx x 0 [] w) :
 (Builtin.append_ #[t, tx] ty #[.slice A 0 0, x]).run P w = .ok (.slice A 0 0) w := by
 rcases hs.kind with ⟨e', hk⟩ | hk <;> cases A <;> simp [Builtin.append_, run_underlying ht, run_underlying hk, sizeOf, typeInfo, hi, hs.len, hs.cells, storeCells]
theorem YyP {tx e' t k : Nat} {A : Option Addr} {xs : List (List PV)} {us : List Value} {S : Nat → Nat → Prop} (hk : P.underlying tx = some (.slice e')) (hsz : (jy P t).length = Qx P t) (hnz : Qx P t ≠ 0)
 (hc : ∀ e ∈ xs, cfs (jy P t) e) (hr : us = [] ∨ ∃ b o, A = some ⟨b, o, none⟩ ∧ w.rangeAt b o us) (hv : VPss P w S xs us) : Src P (Qx P t) tx (.slice A xs.length k) xs.length us w := by
 have hl : us.length = xs.length * Qx P t := by rw [← hsz]; exact hv.length fun e he => (hc e he).length
 have h1 : ∀ u ∈ us, u.oneCell' = true := hv.ones hc
 cases A with
 | none =>
   rcases hr with rfl | ⟨b, o, e, _⟩
   · have : xs.length = 0 := by
      simp only [List.length_nil] at hl
      rcases Nat.mul_eq_zero.1 hl.symm with q | q
      · exact q
      · exact absurd q hnz
     rw [this]
     exact Src.ofNil w hk k
   · cases e
 | some ad =>
   refine Src.ofSlice w hk ad xs.length k us hl (fun j u hu => ?_) h1
   rcases hr with rfl | ⟨b, o, e, hra⟩
   · simp at hu
   · cases e
     rw [Addr.add_mid]
     exact hra j u hu
theorem fits (n bytes : Nat) (hn : n ≤ most) (hb : bytes ≤ 100000) : n * bytes ≤ 140737488355328 := by
 have : n * bytes ≤ most * 100000 := Nat.mul_le_mul hn hb
 unfold most at this
 omega
theorem JK {mem : List (Nat × Ob)} {mu' : Nat → Option Nat} {ka' : Nat → Nat} {w' : World} {id m t b k : Nat} {xs : List (List PV)} (hb : mu' id = some b) (hk : ka' id = k) :
 VA P (cx P X ((id, .row m t xs) :: mem) mu' ka' w') (.own id) (.slice (some ⟨b, 0, none⟩) xs.length k) := by
 simp only [VA]
 refine ⟨t, xs.length, ?_, .inl ⟨b, hb, by show _ = Value.slice _ _ (ka' id); rw [hk]⟩⟩
 show rtOf _ _ = _
 exact Jn (by rw [Yy, if_pos rfl])
theorem Qzf {mem : List (Nat × Ob)} {w' : World} {id m t : Nat} (hb : mu id = none) (A : Option Addr) : VA P (cx P X ((id, .row m t []) :: mem) mu ka w') (.own id) (.slice A 0 0) := by
 simp only [VA]
 refine ⟨t, 0, ?_, .inr ⟨hb, rfl, A, rfl⟩⟩
 show rtOf _ _ = _
 exact Jn (xs := []) (by rw [Yy, if_pos rfl])
theorem Yyy {w : World} {z : Array Value} {sz n k : Nat} {us : List Value} (hz : z.size = sz) (hl : us.length = n * sz) (hk : n ≤ k) : (us.toArray ++ Builtin.zeroCells z (k - n)).size = k * sz := by
 rw [Array.size_append, size_zeroCells, hz, List.size_toArray, hl, ← Nat.add_mul]
 congr 1
 omega
theorem Qyy {z : Array Value} {n : Nat} {us : List Value} : ((us.toArray ++ Builtin.zeroCells z n).toList.take us.length) = us := by
 rw [Array.toList_append]
 exact List.take_left
theorem YN (h : Rel P X s mu ka cst a w) {id m e : Nat} {xs : List (List PV)} {us : List Value} {z : Value} {i : TypeInfo} {old : Nat} (hf : Zz id s.mem = none) (hi : P.info? e = some i) (hz : z.cells.size = i.size)
 (hsz : (jy P e).length = Qx P e) (hc : ∀ x ∈ xs, cfs (jy P e) x) (hv : VPss P w (Smut P X.S0 s.mem mu) xs us) (hn : xs.length ≤ most) :
 ∃ mu' ka', (cx P X s.mem mu ka w).Le (cx P X ((id, .row (m + 1) e xs) :: s.mem) mu' ka' (w.drew.alloc (.cells (us.toArray ++ Builtin.zeroCells z.cells (grownCap w xs.length old e - xs.length)) e))) ∧
  Rel P X { s with mem := (id, .row (m + 1) e xs) :: s.mem } mu' ka' cst a (w.drew.alloc (.cells (us.toArray ++ Builtin.zeroCells z.cells (grownCap w xs.length old e - xs.length)) e)) ∧
  mu' id = some w.heap.size ∧ ka' id = grownCap w xs.length old e := by
 have hsi : Qx P e = i.size := by simp [Qx, hi]
 have hl : us.length = xs.length * (jy P e).length := hv.length fun x hx => (hc x hx).length
 have hml : xs.length ≤ maxLen := by unfold most at hn; unfold maxLen; omega
 obtain ⟨mu', ka', k1, k2, k3, k4, k5⟩ := h.newRow (m := m) (t := e) (k := grownCap w xs.length old e) (w1 := w.drew) (cs := us.toArray ++ Builtin.zeroCells z.cells (grownCap w xs.length old e - xs.length)) hf rfl h.bel.drew hc hsz (grownCap_ge w _ _ _) (grownCap_le_maxLen w _ _ _ hml)
  (Yyy (w := w) (by rw [hz, hsz, hsi]) hl (grownCap_ge w _ _ _)) (by rw [← hl, Qyy]; exact hv)
 exact ⟨mu', ka', k4, k5, k1, k2⟩
theorem yzv (h : Rel E.P X s mu ka cst act.tmps.toList w) {e t tx ty : Nat} {sv xv : AV} {u x : Value} (ht : E.P.underlying t = some (.slice e)) {e2 : Nat} (htx : E.P.underlying tx = some (.slice e2)) {dst : Option Nat}
 (hp : (Q4 E.P e fr dst sv xv).val s.view = some p) (hu : VA E.P (cx E.P X s.mem mu ka w) sv u) (hx : VA E.P (cx E.P X s.mem mu ka w) xv x) :
 ∃ v w' mu' ka', (Builtin.append_ #[t, tx] ty #[u, x]).run E.P w = .ok v w' ∧ Rel E.P X { s with mem := Qs s.mem p.2 } mu' ka' cst act.tmps.toList w' ∧ VA E.P (cx E.P X (Qs s.mem p.2) mu' ka' w') p.1 v := by
 unfold Q4 at hp
 obtain ⟨y, h1, hp1⟩ := val_bind hp
 simp only [Rd.val] at hp1
 obtain ⟨hg, hp2⟩ := Qy hp1
 clear hp hp1
 simp only [Bool.and_eq_true, decide_eq_true_eq, okE, beq_iff_eq, bne_iff_ne, ne_eq] at hg
 obtain ⟨⟨⟨g1, g2⟩, g3, g4⟩, g5⟩ := hg
 obtain ⟨i, z, hi, hz, hv, hki, hks, hzl⟩ := yf g2
 simp only [hi] at g5
 have hf := yl rfl g1
 have hsi : Qx E.P e = i.size := by simp [Qx, hi]
 have hzs : z.cells.size = i.size := by
  have := (hv ⟨w, fun _ _ => True, fun _ => none, fun _ => 0, fun _ => none⟩).length
  rw [Array.length_toList, List.length_map, hki] at this
  exact this
 obtain ⟨A, k, us, x1, x2, x3, x4, x5⟩ := Ye h h1 hx
 obtain ⟨ye, ys⟩ := y
 simp only at x1 x2 x3 x4 x5 hp2
 have srcOf : ye = e → Src E.P i.size tx x ys.length us w := by
  rintro rfl
  rw [← hsi, x1]
  exact YyP htx g3 g4 x3 x4 x5
 split at hp2
 · rename_i t' xs
   simp only [VA] at hu
   obtain ⟨Au, uu, u1, u2, u3, u4⟩ := hu
   split at hp2
   · obtain ⟨hye, hp3⟩ := Qy hp2
     obtain ⟨hc, hp4⟩ := Zo hp3
     simp only [Rd.val, Option.some.injEq] at hp4
     clear hp2 hp3
     subst hp4
     obtain rfl := eq_of_beq hye
     have hlen := of_decide_eq_true hc
     have hs := srcOf rfl
     cases ys with
     | nil =>
       simp only [VPss] at x5
       subst x5
       have hr := Jb t tx ty ye i ht hi Au x hs
       obtain ⟨n1, n2, n3⟩ := h.newNil (id := idOf fr dst) (m := 2) (t := ye) hf g3
       refine ⟨_, _, mu, ka, by rw [u1]; exact hr, n3, ?_⟩
       exact Qzf n1 Au
     | cons y0 ys0 =>
       have hr := run_append_grow_src (P := E.P) w t tx ty ye i z ht hi hz Au 0 0 [] (by cases Au <;> simp [Builtin.firstCells, loadCells, loadCellsFrom]) x (y0 :: ys0).length us hs (by simp) (by unfold most at hlen; omega)
        (growslice_fits (by simp) (fits _ _ (by simpa using hlen) g5))
       simp only [Nat.zero_add, List.nil_append] at hr
       obtain ⟨mu', ka', k1, k2, k3, k4⟩ := YN (m := 1) (z := z) (old := 0) h hf hi hzs g3 x3 x5 hlen
       exact ⟨_, _, mu', ka', by rw [u1]; exact hr, k2, JK k3 k4⟩
   · rename_i x0 xs0
     obtain ⟨hye, hp3⟩ := Qy hp2
     obtain ⟨hc, hp4⟩ := Zo hp3
     simp only [Rd.val, Option.some.injEq] at hp4
     clear hp2 hp3
     subst hp4
     simp only [Bool.and_eq_true, beq_iff_eq, decide_eq_true_eq] at hye hc
     obtain ⟨rfl, rfl⟩ := hye
     have hs := srcOf rfl
     have hcx : ∀ q ∈ (x0 :: xs0) ++ ys, cfs (jy E.P t') q := fun q hq => (List.mem_append.1 hq).elim (u2 q) (x3 q)
     have hlu : uu.length = (x0 :: xs0).length * i.size := by rw [u4.length fun q hq => (u2 q hq).length, g3, hsi]
     have hold : (Builtin.firstCells i.size (x0 :: xs0).length (.slice Au (x0 :: xs0).length (x0 :: xs0).length)).run E.P w.drew = .ok uu.toArray w.drew := by
      rcases u3 with rfl | ⟨b, o1, rfl, hra, _⟩
      · simp only [List.length_nil, List.length_cons] at hlu
        have : 0 < (xs0.length + 1) * i.size := Nat.mul_pos (by omega) (by omega)
        omega
      · refine run_firstCells_some w.drew i.size _ ⟨b, o1, none⟩ _ _ uu hlu fun j q hq => ?_
        rw [Addr.add_mid]
        exact hra j q hq
     have hr := run_append_grow_src (P := E.P) w t tx ty t' i z ht hi hz Au _ _ uu hold x ys.length us hs (by omega) (by unfold most at hc; omega) (growslice_fits (by omega) (fits _ _ hc.2 g5))
     obtain ⟨mu', ka', k1, k2, k3, k4⟩ := YN (m := 1) (z := z) (old := (x0 :: xs0).length) (us := uu ++ us) h hf hi hzs g3 hcx (u4.append x5) (by rw [List.length_append]; exact hc.2)
     rw [List.length_append] at k1 k2 k4
     refine ⟨_, _, mu', ka', by rw [u1]; exact hr, k2, ?_⟩
     have := JK (P := E.P) (X := X) (mem := s.mem) (w' := w.drew.alloc (.cells ((uu ++ us).toArray ++ Builtin.zeroCells z.cells (grownCap w ((x0 :: xs0).length + ys.length) (x0 :: xs0).length t' - ((x0 :: xs0).length + ys.length))) t')) (m := 2) (t := t') (xs := x0 :: xs0 ++ ys) k3 k4
     rw [List.length_append] at this
     exact this
 · rename_i j
   simp only [Rd.val, View.row, St.view] at hp2
   cases hfj : Zz j s.mem with
   | none => rw [hfj] at hp2; simp [Rd.val] at hp2
   | some ob =>
     cases ob with
     | box cs => rw [hfj] at hp2; simp [Rd.val] at hp2
     | chan q => rw [hfj] at hp2; simp [Rd.val] at hp2
     | row m t' xs =>
       rw [hfj] at hp2
       simp only at hp2
       obtain ⟨hye, hp3⟩ := Qy hp2
       obtain ⟨hc, hp4⟩ := Zo hp3
       simp only [Rd.val, Option.some.injEq] at hp4
       clear hp2 hp3
       subst hp4
       simp only [Bool.and_eq_true, beq_iff_eq, decide_eq_true_eq, ne_eq] at hye
       have hlen := of_decide_eq_true hc
       obtain ⟨⟨rfl, rfl⟩, hm0⟩ := hye
       obtain ⟨m, rfl⟩ : ∃ m', m = m' + 1 := ⟨m - 1, by omega⟩
       have hs := srcOf rfl
       obtain ⟨m', hm', hmm⟩ : ∃ m', Jzo xs = m' + 1 ∧ (m' + 1 = 1 ∨ xs = []) := ⟨0, rfl, .inl rfl⟩
       have he9 : Qs s.mem [.rset j 0 t' xs, .new (idOf fr dst) (.row (Jzo xs) t' (xs ++ ys))] = (idOf fr dst, .row (m' + 1) t' (xs ++ ys)) :: Yt j (.row 0 t' xs) s.mem := by
        rw [hm']; rfl
       rw [he9]
       have hjne : idOf fr dst ≠ j := fun q => by rw [q, hfj] at hf; cases hf
       obtain ⟨r1, r2⟩ := h.retire hfj
       have hf' : Zz (idOf fr dst) (Yt j (.row 0 t' xs) s.mem) = none := by rw [zy j _ _ hjne]; exact hf
       have x5' := VPss.keep r1.keep _ _ x5
       simp only [VA] at hu
       obtain ⟨t9, n, hrt, hu⟩ := hu
       have hrt' : rtOf s.mem j = some (t9, n) := hrt
       rw [Jn hfj] at hrt'
       obtain ⟨q1, q2⟩ := Prod.mk.inj (Option.some.inj hrt')
       subst q1
       subst q2
       rcases hu with ⟨b, hb, hu⟩ | ⟨hb, hn, Au, hu⟩
       · obtain ⟨c1, c2, c3, vs, c4, c5, c6, c7⟩ := h.rowAt hfj hb
         by_cases hroom : xs.length + ys.length ≤ ka j
         · obtain ⟨vs', d1, d2, mu', ka', d3, d4, d5, d6⟩ := h.appendIn (id := idOf fr dst) (m' := m') hfj hb hf hmm x3 x5 hroom
           have hr := YD (P := E.P) (w := w) t tx ty t' t' i ht hi b xs.length (ka j) vs' d1 x ys.length us hs hroom (by rw [← hsi, ← g3]; exact d2)
           rw [← hsi, ← g3] at hr
           refine ⟨_, _, mu', ka', by rw [hu]; exact hr, d6, ?_⟩
           have := JK (P := E.P) (X := X) (mem := Yt j (.row 0 t' xs) s.mem) (w' := w.setRow b (jx vs'.toList (xs.length * (jy E.P t').length) us).toArray) (m := m' + 1) (t := t') (xs := xs ++ ys) d3 d4
           rw [List.length_append] at this
           exact this
         · have hcells : (vs.toList.take (xs.length * (jy E.P t').length)).length = xs.length * i.size := by
            rw [c7.length fun q hq => (c1 q hq).length, g3, hsi]
           have hold : (Builtin.firstCells i.size xs.length (.slice (some ⟨b, 0, none⟩) xs.length (ka j))).run E.P w.drew = .ok (vs.toList.take (xs.length * (jy E.P t').length)).toArray w.drew := by
            refine run_firstCells_some w.drew i.size _ ⟨b, 0, none⟩ _ _ _ hcells fun q v hq => ?_
            rw [Addr.add_mid]
            have := cell_of_row w b (0 + q) vs t' (0, 0) c4
            show w.cell? _ = _
            rw [this, Nat.zero_add]
            rw [List.getElem?_take] at hq
            split at hq
            · simpa using hq
            · cases hq
           have hr := run_append_grow_src (P := E.P) w t tx ty t' i z ht hi hz (some ⟨b, 0, none⟩) _ _ _ hold x ys.length us hs (by omega) (by unfold most at hlen; omega) (growslice_fits (by omega) (fits _ _ hlen g5))
           have hcx : ∀ q ∈ xs ++ ys, cfs (jy E.P t') q := fun q hq => (List.mem_append.1 hq).elim (c1 q) (x3 q)
           obtain ⟨mu', ka', k1, k2, k3, k4⟩ := YN (m := m') (z := z) (old := ka j) (us := vs.toList.take (xs.length * (jy E.P t').length) ++ us) r2 hf' hi hzs g3 hcx ((VPss.keep r1.keep _ _ c7).append x5') (by rw [List.length_append]; exact hlen)
           rw [List.length_append] at k1 k2 k4
           refine ⟨_, _, mu', ka', by rw [hu]; exact hr, k2, ?_⟩
           have := JK (P := E.P) (X := X) (mem := Yt j (.row 0 t' xs) s.mem) (w' := w.drew.alloc (.cells ((vs.toList.take (xs.length * (jy E.P t').length) ++ us).toArray ++ Builtin.zeroCells z.cells (grownCap w (xs.length + ys.length) (ka j) t' - (xs.length + ys.length))) t')) (m := m' + 1) (t := t') (xs := xs ++ ys) k3 k4
           rw [List.length_append] at this
           exact this
       · obtain rfl := List.length_eq_zero_iff.1 hn
         cases ys with
         | nil =>
           simp only [VPss] at x5
           subst x5
           have hr := Jb t tx ty t' i ht hi Au x hs
           obtain ⟨n1, n2, n3⟩ := r2.newNil (id := idOf fr dst) (m := m' + 1) (t := t') hf' g3
           refine ⟨_, _, mu, ka, by rw [hu]; exact hr, n3, ?_⟩
           exact Qzf n1 Au
         | cons y0 ys0 =>
           have hr := run_append_grow_src (P := E.P) w t tx ty t' i z ht hi hz Au 0 0 [] (by cases Au <;> simp [Builtin.firstCells, loadCells, loadCellsFrom]) x (y0 :: ys0).length us hs (by simp) (by unfold most at hlen; simp at hlen ⊢; omega)
            (growslice_fits (by simp) (fits _ _ (by simpa using hlen) g5))
           simp only [Nat.zero_add, List.nil_append] at hr
           obtain ⟨mu', ka', k1, k2, k3, k4⟩ := YN (m := m') (z := z) (old := 0) r2 hf' hi hzs g3 x3 x5' (by simpa using hlen)
           exact ⟨_, _, mu', ka', by rw [hu]; exact hr, k2, JK k3 k4⟩
 · simp [Rd.val] at hp2
end
structure Fresh (P : Program) (S : Nat → Nat → Prop) (w w' : World) (t b k : Nat) (xs : List (List PV)) : Prop where
 new : w.heap.size ≤ b
 le : xs.length ≤ k
 most : k ≤ maxLen
 cells : ∃ vs, w'.heap[b]? = some (.cells vs t (0, 0)) ∧ vs.size = k * (jy P t).length ∧ VPss P w' (fun b' o => S b' o ∨ b' = b) xs (vs.toList.take (xs.length * (jy P t).length))
def ResRel (P : Program) (S : Nat → Nat → Prop) (w w' : World) : Res → Value → Prop
 | .pv p, v => VP P w' S p v
 | .fresh t xs, v => (∀ e ∈ xs, cfs (jy P t) e) ∧ (jy P t).length = Qx P t ∧ ((∃ b k, v = .slice (some ⟨b, 0, none⟩) xs.length k ∧ Fresh P S w w' t b k xs) ∨ (xs = [] ∧ ∃ A, v = .slice A 0 0))
def Spec (P : Program) (f : Nat) (o : Ora) : Prop :=
 ∀ (w : World) (S : Nat → Nat → Prop) (ps : List PV) (vs : List Value), (∀ b o, S b o → b < w.heap.size) → VPs P w S ps vs → o.pre ps = true →
  Calls P f vs.toArray w fun e w' => ∃ v, e = .returned v ∧ Below w.heap.size w w' ∧ ResRel P S w w' (o.res ps) v
def Zyb (P : Program) (g : Nat) : Prop :=
 ∀ (w : World) (b T : Nat) (vs : Array Value) (s : ByteArray), w.heap[b]? = some (.cells vs T (0, 0)) → vs[0]? = some (.string s) → 0 < s.size →
  Calls P g #[.pointer (some ⟨b, 0, none⟩)] w fun e w' => e = .returned (.int .i64 ((s.get! 0).toNat : Int)) ∧ w' = w.setRow b (jx vs.toList 0 [.string (s.extract 1 s.size)]).toArray
structure Env.Ok (E : Env) : Prop where
 ora : ∀ f o, E.O f = some o → Spec E.P f o
 names : (E.P.funcs.all fun fn => !(fn.name == "runtime.NumGoroutine")) = true
 tak : ∀ g, jzN E g = true → Zyb E.P g ∧ ∃ fn, E.P.funcs[g]? = some fn ∧ fn.body.isSome = true
section
variable {P : Program} {X : Out} {s : St} {mu : Nat → Option Nat} {ka : Nat → Nat} {cst : List (List Value)} {act : Act} {a : List Value} {w : World} {E : Env} {fr : Nat} {o : Oper} {p : AV × List Eff} {K : Act → World → Prop} {Q : Exit → Act → World → Prop}
theorem QB {c : Cx} {q : PV} {v : Value} (h : VP P c.w c.S q v) : VA P c (Qg q) v := by
 cases q <;> simp only [Qg]
 case agg cs =>
  simp only [VP] at h
  obtain ⟨vs, rfl, hv⟩ := h
  simp only [VA]
  exact ⟨vs, rfl, VAs.mapPv hv⟩
 all_goals (simp only [VA]; exact h)
theorem YyG {c : Cx} {q : PV} {v : Value} (h : VP P c.w c.S q v) : VA P c (ofPV q) v := by
 cases q <;> simp only [ofPV]
 case tup cs =>
  simp only [VP] at h
  obtain ⟨vs, rfl, hv⟩ := h
  simp only [VA]
  refine ⟨vs, rfl, VAs.of_get (by simp [hv.length]) fun i a v' h1 h2 => ?_⟩
  rw [List.getElem?_map] at h1
  obtain ⟨p, hp, rfl⟩ := Option.map_eq_some_iff.1 h1
  obtain ⟨v'', h3, h4⟩ := hv.get hp
  rw [h2] at h3; cases h3
  exact QB h4
 all_goals exact QB h
theorem Rel.adopt (h : Rel P X s mu ka cst a w) {w' : World} (hb : Below w.heap.size w w') {id t b k : Nat} {xs : List (List PV)} (hf : Zz id s.mem = none) (hfr : Fresh P (Smut P X.S0 s.mem mu) w w' t b k xs)
 (hc : ∀ e ∈ xs, cfs (jy P t) e) (hsz : (jy P t).length = Qx P t) :
 ∃ mu' ka', mu' id = some b ∧ ka' id = k ∧ (cx P X s.mem mu ka w).Le (cx P X ((id, .row 2 t xs) :: s.mem) mu' ka' w') ∧ Rel P X { s with mem := (id, .row 2 t xs) :: s.mem } mu' ka' cst a w' := by
 have hmu : mu id = none := by
  cases hm : mu id with
  | none => rfl
  | some b => obtain ⟨_, ob', ho⟩ := h.blk id b hm; rw [hf] at ho; cases ho
 have hne : ∀ {i o}, Zz i s.mem = some o → id ≠ i := fun {i o} q e => by subst e; rw [hf] at q; cases q
 have hlt : ∀ i b ob', mu i = some b → Zz i s.mem = some ob' → live ob' → b < w.heap.size := fun i b ob' h1 h2 h3 => by
  rcases h.obs i ob' h2 with ⟨b', hb', ho'⟩ | ⟨hn, _⟩
  · rw [h1] at hb'; cases hb'; exact zS ho' h3
  · rw [h1] at hn; cases hn
 have hS : ∀ b1 o, Smut P X.S0 ((id, .row 2 t xs) :: s.mem) (fun i => if i = id then some b else mu i) b1 o → Smut P X.S0 s.mem mu b1 o ∨ b1 = b := by
  rintro b1 o (q | ⟨i, oi, g1, g2, g3⟩)
  · exact .inl (.inl q)
  · by_cases e : i = id
    · subst e
      simp only [if_true] at g2
      cases g2
      exact .inr rfl
    · simp only [if_neg e] at g2
      rw [Yy, if_neg (Ne.symm e)] at g1
      exact .inl (.inr ⟨i, oi, g1, g2, g3⟩)
 refine ⟨fun i => if i = id then some b else mu i, fun i => if i = id then k else ka i, by simp, by simp, ?_⟩
 have hl : (cx P X s.mem mu ka w).Le (cx P X ((id, .row 2 t xs) :: s.mem) (fun i => if i = id then some b else mu i) (fun i => if i = id then k else ka i) w') := by
  refine ⟨fun b1 o u hc hs => ⟨(hb.cell (World.block_lt_of_cell? _ _ hc)).trans hc, fun q => ?_⟩, fun i b1 q => ?_, fun i x hx => ?_⟩
  · rcases hS b1 o q with q | q
    · exact hs q
    · have h1 : b1 < w.heap.size := World.block_lt_of_cell? _ _ hc
      have := hfr.new
      omega
  · show (if i = id then some b else mu i) = some b1
    have q' : mu i = some b1 := q
    rw [if_neg (fun e => by subst e; rw [hmu] at q'; cases q')]
    exact q'
  · obtain ⟨mm, tt, zs, hx', rfl⟩ := Yi hx
    have e := hne hx'
    refine ⟨?_, by show (if i = id then _ else mu i) = mu i; rw [if_neg (Ne.symm e)], by show (if i = id then _ else ka i) = ka i; rw [if_neg (Ne.symm e)]⟩
    show rtOf _ i = _
    unfold rtOf
    rw [Yy, if_neg e, hx']
 refine ⟨hl, h.turn hl (h.bel.trans (hb.mono h.size)) ?_ ?_ ?_⟩
 · intro i b1 hi
   by_cases e : i = id
   · subst e
     simp only [if_true] at hi; cases hi
     exact ⟨Nat.le_trans h.size hfr.new, _, by rw [Yy, if_pos rfl]⟩
   · simp only [if_neg e] at hi
     obtain ⟨g1, o, g2⟩ := h.blk i b1 hi
     exact ⟨g1, o, by rw [Yy, if_neg (Ne.symm e)]; exact g2⟩
 · intro i j b1 oi oj hi hj fi fj li lj
   have hnew := hfr.new
   by_cases e : i = id
   · by_cases e' : j = id
     · rw [e, e']
     · subst e
       simp only [if_true, if_neg e'] at hi hj
       rw [Yy, if_neg (Ne.symm e')] at fj
       have := hlt j b1 oj hj fj lj
       cases hi
       omega
   · by_cases e' : j = id
     · subst e'
       simp only [if_true, if_neg e] at hi hj
       rw [Yy, if_neg (Ne.symm e)] at fi
       have := hlt i b1 oi hi fi li
       cases hj
       omega
     · simp only [if_neg e, if_neg e'] at hi hj
       rw [Yy, if_neg (Ne.symm e)] at fi
       rw [Yy, if_neg (Ne.symm e')] at fj
       exact h.inj i j b1 oi oj hi hj fi fj li lj
 · intro i o hi
   by_cases e : i = id
   · subst e
     rw [Yy, if_pos rfl] at hi
     cases hi
     obtain ⟨vs, v1, v2, v3⟩ := hfr.cells
     refine .inl ⟨b, by simp, hc, hsz, by simpa using hfr.le, vs, v1, by simpa using hfr.most, by simpa using v2, ?_⟩
     exact VPss.keep (fun b1 o u hc' hs => ⟨hc', fun q => hs (hS b1 o q)⟩) _ _ v3
   · rw [Yy, if_neg (Ne.symm e)] at hi
     simp only [if_neg e]
     rcases h.obs i o hi with ⟨b1, hb1, ho⟩ | q
     · exact .inl ⟨b1, hb1, ho.le hl fun hlo => hb.block b1 (hlt i b1 o hb1 hi hlo)⟩
     · exact .inr q
theorem Env.Ok.name (hE : E.Ok) {f : Nat} {fn : Func} (hf : E.P.funcs[f]? = some fn) : (fn.name == "runtime.NumGoroutine") = false := by
 have := Array.all_eq_true_iff_forall_mem.1 hE.names fn (Array.mem_of_getElem? hf)
 simpa using this
theorem jY (hE : E.Ok) {cl : Call} {f : Nat} {fn : Func} {first cap : Array Value} {fo : Operand} (ho : o.op = .call cl) (hc : cl.callee = .value fo) (hv : act.eval fo = .func (.func f) first cap) (hf : E.P.funcs[f]? = some fn) (hb : fn.body.isSome = true) :
 (execOp act.eval o).run E.P w = .ok (.enter f (first ++ cl.args.map act.eval ++ cap)) w := by
 have hn := hE.name hf
 have hbn : fn.body.isNone = false := by cases hq : fn.body <;> simp_all
 simp only [execOp, ho, resolve, hc, Deferred.ofValue, hv, Sem.run_bind, Sem.run_pure, Result.andThen_ok, invoke, callFunc, run_program, hf, hn, Bool.false_eq_true, if_false, hbn]
theorem JB (hE : E.Ok) (h : Rel E.P X s mu ka cst act.tmps.toList w) {cl : Call} {f : Nat} {first cap : Array Value} {fo : Operand} {vs : List AV} (ho : o.op = .call cl) (hc : cl.callee = .value fo) (hv : act.eval fo = .func (.func f) first cap)
 (hvs : VAs E.P (cx E.P X s.mem mu ka w) vs (first ++ cl.args.map act.eval ++ cap).toList) (hp : (Qzh E fr o.dst f vs).val s.view = some p) (hK : Next E.P X (s.app o.dst p) cst act K) : o.wp E.P act w K Q := by
 unfold Qzh at hp
 split at hp
 · rename_i oo fn hO hfn
   obtain ⟨hbody, hp0⟩ := Qy hp
   obtain ⟨ps, h1, hp1⟩ := val_bind hp0
   obtain ⟨hpre, hp2⟩ := Zo hp1
   clear hp hp0 hp1
   obtain ⟨g1, g2⟩ := Zj (s := s) (m0 := s.mem) rfl h (Dem.refl _) h1 hvs
   have hspec := hE.ora f oo hO w (Smut E.P X.S0 (Qs s.mem ps.2) mu) ps.1 _ (fun b o q => g1.rel.mut_lt q) g2 hpre
   unfold Oper.wp
   rw [jY hE ho hc hv hfn hbody, Oper.upon_enter]
   simp only [Array.toArray_toList] at hspec
   refine Calls.mono hspec ?_
   rintro e w' ⟨v, rfl, hbw, hres⟩
   simp only
   generalize hr : oo.res ps.1 = r at hp2 hres
   cases r with
   | pv q =>
     simp only [Rd.val, Option.some.injEq] at hp2
     subst hp2
     obtain ⟨n1, n2⟩ := g1.rel.grow hbw
     refine hK mu ka (act.put o.dst v) w' ?_ (by cases o.dst <;> rfl)
     rw [Jt, Ql]
     exact n2.put o.dst (YyG hres)
   | fresh t xs =>
     simp only [Rd.val] at hp2
     obtain ⟨hfr, hp3⟩ := Qy hp2
     simp only [Rd.val, Option.some.injEq] at hp3
     clear hp2
     subst hp3
     obtain ⟨r1, r2, r3⟩ := hres
     have hf0 := yl (s := s) rfl hfr
     have hf1 : Zz (idOf fr o.dst) (Qs s.mem ps.2) = none := by
      rcases g1.dem (idOf fr o.dst) with q | ⟨t', xs', q, _⟩
      · rw [q]; exact hf0
      · rw [hf0] at q; cases q
     rcases r3 with ⟨b, k, rfl, hfresh⟩ | ⟨rfl, A, rfl⟩
     · obtain ⟨mu', ka', k1, k2, k3, k4⟩ := g1.rel.adopt hbw hf1 hfresh r1 r2
       refine hK mu' ka' (act.put o.dst _) w' ?_ (by cases o.dst <;> rfl)
       rw [Jt, Ql, jp]
       exact k4.put o.dst (JK k1 k2)
     · obtain ⟨n1, n2⟩ := g1.rel.grow hbw
       obtain ⟨m1, m2, m3⟩ := n2.newNil (id := idOf fr o.dst) (m := 2) (t := t) hf1 r2
       refine hK mu ka (act.put o.dst _) w' ?_ (by cases o.dst <;> rfl)
       rw [Jt, Ql, jp]
       exact m3.put o.dst (Qzf m1 A)
 · simp [Rd.val] at hp
theorem YzW (hE : E.Ok) (h : Rel E.P X s mu ka cst act.tmps.toList w) {cl : Call} {g id : Nat} {first : Array Value} {fo : Operand} (ho : o.op = .call cl) (hc : cl.callee = .value fo) (hv : act.eval fo = .func (.func g) first #[])
 (hvs : VAs E.P (cx E.P X s.mem mu ka w) [.ptr id 0] (first ++ cl.args.map act.eval ++ #[]).toList) (ht : jzN E g = true) (hp : (Jyc id).val s.view = some p) (hK : Next E.P X (s.app o.dst p) cst act K) : o.wp E.P act w K Q := by
 obtain ⟨hspec, fn, hfn, hbody⟩ := hE.tak g ht
 unfold Jyc at hp
 simp only [Rd.val] at hp
 split at hp
 · rename_i sb hx
   obtain ⟨hpos, hp2⟩ := Zo hp
   simp only [Rd.val, Option.some.injEq] at hp2
   subst hp2
   have hpos := of_decide_eq_true hpos
   unfold View.rng at hx
   split at hx
   · rename_i cs hf
     split at hx
     · rename_i hfit
       have hf' : Zz id s.mem = some (.box cs) := hf
       have hcs : cs[0]? = some (.pv (.str sb)) := by
        simp only [List.drop_zero, Option.some.injEq] at hx
        have := congrArg (fun l => l[0]?) hx
        simpa using this
       generalize hus : (first ++ cl.args.map act.eval ++ #[]) = us at hvs
       simp only [VAs, VA] at hvs
       obtain ⟨u, us', e1, ⟨b, hb, rfl⟩, rfl⟩ := hvs
       have hus' : us = #[.pointer (some ⟨b, 0, none⟩)] := by
        apply Array.ext'
        rw [e1]
       have hnew : VAs E.P (cx E.P X s.mem mu ka w) [.pv (.str (sb.extract 1 sb.size))] [.string (sb.extract 1 sb.size)] := by
        simp only [VAs, VA, VP]
        exact ⟨_, _, rfl, rfl, rfl⟩
       obtain ⟨T, vs, g1, g2, g3⟩ := h.store hf' hb hfit hnew
       have hb1 : mu id = some b := hb
       have hv0 : vs[0]? = some (.string sb) := by
        rcases h.obs id _ hf' with ⟨b', hb', T', vs', hg', hvs'⟩ | ⟨q, _⟩
        · rw [hb1] at hb'; cases hb'
          have hg2 : w.heap[b]? = some (.cells vs' T' (0, 0)) := hg'
          rw [g1] at hg2
          cases hg2
          obtain ⟨v', h3, h4⟩ := hvs'.get hcs
          simp only [VA, VP] at h4
          subst h4
          simpa using h3
        · rw [hb1] at q; cases q
       have hcall := hspec w b T vs sb g1 hv0 hpos
       unfold Oper.wp
       rw [jY hE ho hc hv hfn hbody, Oper.upon_enter, hus, hus']
       refine Calls.mono hcall ?_
       rintro e w' ⟨rfl, rfl⟩
       simp only
       have ee : Qs s.mem [.put id 0 [.pv (.str (sb.extract 1 sb.size))]] = Yt id (.box (jx cs 0 [.pv (.str (sb.extract 1 sb.size))])) s.mem := by
        show Eff.on s.mem (.put id 0 [.pv (.str (sb.extract 1 sb.size))]) = _
        simp only [Eff.on, hf']
       refine hK mu ka (act.put o.dst _) _ ?_ (by cases o.dst <;> rfl)
       rw [Jt, Ql, ee]
       exact g3.put o.dst (by simp only [VA, VP])
     · cases hx
   · cases hx
 · simp [Rd.val] at hp
theorem Z7 (h : Rel E.P X s mu ka cst act.tmps.toList w) {cl : Call} {b : Builtin} {vs : List AV} (ho : o.op = .call cl) (hc : cl.callee = .builtin b)
 (hvs : VAs E.P (cx E.P X s.mem mu ka w) vs (cl.args.map act.eval).toList) (hp : (J4 E fr o.dst b cl.argTypes.toList vs).val s.view = some p) (hK : Next E.P X (s.app o.dst p) cst act K) : o.wp E.P act w K Q := by
 have exec_ : ∀ {us : List Value} {ts : List Nat}, (cl.args.map act.eval).toList = us → cl.argTypes.toList = ts → execOp act.eval o = (do let d ← (pure { target := .builtin b ts.toArray o.type (cl.args.map fun | .const _ => true | _ => false), args := us.toArray } : Sem Deferred); invoke d.target d.args) := by
  rintro us ts rfl rfl
  simp [execOp, ho, resolve, hc]
  congr 1
  apply Array.ext'
  simp
 unfold J4 at hp
 split at hp
 · rename_i v
   split at hp
   · rename_i t hts
     simp only [VAs] at hvs
     obtain ⟨u, us, hus, hv, rfl⟩ := hvs
     split at hp
     · rename_i str ht
       obtain rfl := Zx hp
       have hv' := Jo hv
       simp only [VP] at hv'
       subst hv'
       refine yx (u := .int .i64 str.size) h ?_ (by simp only [VA, VP]) hK
       rw [exec_ hus hts]
       simp [invoke, builtin, Builtin.len_, qu ht, goInt]
     · rename_i e id offs ht
       obtain rfl := Zx hp
       simp only [VA] at hv
       obtain ⟨b, A, _, rfl, _⟩ := hv
       refine yx (u := .int .i64 offs.length) h ?_ (by simp only [VA, VP]) hK
       rw [exec_ hus hts]
       simp [invoke, builtin, Builtin.len_, qu ht, goInt]
     · rename_i e v' ht _
       obtain ⟨y, h1, hp1⟩ := val_bind hp
       obtain rfl := Zx hp1
       obtain ⟨A, k, ws, rfl, _⟩ := Ye h h1 hv
       refine yx (u := .int .i64 y.2.length) h ?_ (by simp only [VA, VP]) hK
       rw [exec_ hus hts]
       simp [invoke, builtin, Builtin.len_, qu ht, goInt]
     · simp [Rd.val] at hp
   · simp [Rd.val] at hp
 · rename_i sv xv
   split at hp
   · rename_i t u hts
     split at hp
     · rename_i e e2 he he2
       simp only [VAs] at hvs
       obtain ⟨u1, us1, hus, hv1, u2, us2, rfl, hv2, rfl⟩ := hvs
       obtain ⟨v, w', mu', ka', r1, r2, r3⟩ := yzv (ty := o.type) h (Jp he) (Jp he2) hp hv1 hv2
       obtain ⟨p1, p2⟩ := p
       rw [Ql] at hK
       refine Qo (u := v) ?_ r2 r3 hK
       rw [exec_ hus hts]
       simp only [Sem.run_bind, Sem.run_pure, Result.andThen_ok, invoke, builtin, r1]
     · simp [Rd.val] at hp
   · simp [Rd.val] at hp
 · rename_i k x j y
   obtain ⟨hk, hp1⟩ := Qy hp
   obtain rfl := Zx hp1
   obtain rfl := of_decide_eq_true hk
   simp only [VAs, VA, VP] at hvs
   obtain ⟨_, _, hus, rfl, _, _, rfl, rfl, rfl⟩ := hvs
   refine yx (u := .int k (if x < y then y else x)) h ?_ (by simp only [VA, VP]) hK
   rw [exec_ hus rfl]
   simp [invoke, builtin, run_max_int2]
 · rename_i k x j y
   obtain ⟨hk, hp1⟩ := Qy hp
   obtain rfl := Zx hp1
   obtain rfl := of_decide_eq_true hk
   simp only [VAs, VA, VP] at hvs
   obtain ⟨_, _, hus, rfl, _, _, rfl, rfl, rfl⟩ := hvs
   refine yx (u := .int k (if y < x then y else x)) h ?_ (by simp only [VA, VP]) hK
   rw [exec_ hus rfl]
   simp [invoke, builtin, run_min_int2]
 · simp [Rd.val] at hp
theorem QzW (hE : E.Ok) (h : Rel E.P X s mu ka cst act.tmps.toList w) {cl : Call} (ho : o.op = .call cl) (hp : (evOp E fr o).val s.view = some p) (hK : Next E.P X (s.app o.dst p) cst act K) : o.wp E.P act w K Q := by
 simp only [evOp, ho] at hp
 obtain ⟨vs, h1, hp1⟩ := val_bind hp
 clear hp
 have hvs := h.opsL h1
 rw [← Array.toList_map] at hvs
 split at hp1
 · rename_i b hc
   exact Z7 h ho hc hvs hp1 hK
 · rename_i f hc
   obtain ⟨fv, h2, hp2⟩ := val_bind hp1
   clear hp1
   have hfv := h.op h2
   split at hp2
   · rename_i g first
     simp only [VA] at hfv
     obtain ⟨as, bs, e, h3, h4⟩ := hfv
     simp only [VAs] at h4
     subst h4
     split at hp2
     · rename_i id ht
       exact YzW hE h ho hc e (by simpa using h3.append hvs) ht hp2 hK
     · refine JB hE h ho hc e ?_ hp2 hK
       simpa using h3.append hvs
   · rename_i g
     have hfv' := Jo hfv
     simp only [VP] at hfv'
     refine JB hE h ho hc hfv' ?_ hp2 hK
     simpa using hvs
   · simp [Rd.val] at hp2
 · simp [Rd.val] at hp1
theorem QD (h : Rel E.P X s mu ka cst act.tmps.toList w) {t : Nat} {x : Operand} (ho : o.op = .makeChan t x) (hp : (evOp E fr o).val s.view = some p) (hK : Next E.P X (s.app o.dst p) cst act K) : o.wp E.P act w K Q := by
 simp only [evOp, ho] at hp
 obtain ⟨nv, h1, hp1⟩ := val_bind hp
 clear hp
 split at hp1
 · rename_i k n
   simp only [Rd.val] at hp1
   obtain ⟨hg, hp2⟩ := Qy hp1
   simp only [Bool.and_eq_true, beq_iff_eq] at hg
   obtain ⟨⟨hfr, rfl⟩, hc⟩ := hg
   simp only [Rd.val, Option.some.injEq] at hp2
   subst hp2
   have hf := yl rfl hfr
   have hx := Jo (h.op h1)
   simp only [VP] at hx
   unfold QyQ at hc
   split at hc
   · rename_i dir e hu
     split at hc
     · rename_i i hi
       have hb := of_decide_eq_true hc
       have hr : (Instr.makeChan t (.int k 1)).run E.P w = .ok (.chan (some w.heap.size)) (w.alloc (.chan 1 #[] false 0 0 false)) := Go.Conc.run_makeChan (P := E.P) (w := w) hu hi k 1 (by omega) (by omega)
       have hal := h.alloc (id := idOf fr o.dst) (ob := .chan none) hf (w1 := w) rfl rfl h.bel 0 (w2 := w.alloc (.chan 1 #[] false 0 0 false)) ⟨#[], 0, 0, heap_alloc_new w _, rfl⟩
       rw [Q6] at hK
       refine Qo (u := .chan (some w.heap.size)) ?_ hal ?_ hK
       · simp only [execOp, ho, hx]
         simp only [Sem.run_bind, hr, Result.andThen_ok]
         rfl
       · simp only [VA]
         exact ⟨w.heap.size, by simp [cx], rfl⟩
     · cases hc
   · cases hc
 · simp [Rd.val] at hp1
theorem JzW {x : Value} {t : Nat} {d : TypeDesc} {i : TypeInfo} {z : Value} (hu : P.underlying t = some d) (hd : ∀ ms, d ≠ .interface ms) (hi : P.info? t = some i) (hz : i.zero = some z) (hx : x = .nilIface ∨ ∃ u v, x = .iface u v ∧ u ≠ t) (xt : TypeId) (w : World) :
 (Instr.typeAssert x xt t true).run P w = .ok (.tuple #[z, .bool false]) w := by
 have hzv : (zeroValue t).run P w = .ok z w := by simp [zeroValue, typeInfo, hi, hz]
 rcases hx with rfl | ⟨u, v, rfl, hne⟩
 · cases d <;> first | (exact absurd rfl (hd _)) | simp [Instr.typeAssert, qu hu, hzv, Sem.run_bind]
 · cases d <;> first | (exact absurd rfl (hd _)) | simp [Instr.typeAssert, qu hu, hzv, hne, Sem.run_bind]
theorem JP (h : Rel E.P X s mu ka cst act.tmps.toList w) {x : Operand} {xt t : Nat} {ok : Bool} (ho : o.op = .typeAssert x xt t ok) (hp : (evOp E fr o).val s.view = some p) (hK : Next E.P X (s.app o.dst p) cst act K) : o.wp E.P act w K Q := by
 simp only [evOp, ho] at hp
 obtain ⟨v, h1, hp1⟩ := val_bind hp
 clear hp
 have hx := h.op h1
 have fails : ∀ d, E.P.underlying t = some d → (∀ ms, d ≠ .interface ms) → (act.eval x = .nilIface ∨ ∃ u v, act.eval x = .iface u v ∧ u ≠ t) → (zzg E.P t ok).val s.view = some p → o.wp E.P act w K Q := by
  intro d hu hd hxv hp2
  unfold zzg at hp2
  split at hp2
  · rename_i i hi
    split at hp2
    · rename_i z hz
      obtain rfl := Zx hp2
      refine yx (u := .tuple #[z, .bool false]) h ?_ ?_ hK
      · simp only [execOp, ho, Sem.run_bind, JzW hu hd hi hz hxv xt w, Result.andThen_ok, Sem.run_pure]
      · simp only [VA]
        refine ⟨[z, .bool false], rfl, ?_⟩
        simp only [VAs, VA, VP]
        exact ⟨_, _, rfl, Jyk _ z, _, _, rfl, rfl, rfl⟩
    · simp [Rd.val] at hp2
  · simp [Rd.val] at hp2
 split at hp1
 · simp [Rd.val] at hp1
 · rename_i d hn hd
   have hd' : ∀ ms, d ≠ .interface ms := fun ms e => hn ms (by rw [← e])
   split at hp1
   · rename_i u a
     simp only [VA] at hx
     obtain ⟨uv, hxe, hua⟩ := hx
     split at hp1
     · rename_i he
       obtain rfl := eq_of_beq he
       have hr : ∀ b, (Instr.typeAssert (act.eval x) xt u b).run E.P w = .ok (if b then .tuple #[uv, .bool true] else uv) w := by
        intro b
        rw [hxe]
        cases d <;> first | (exact absurd rfl (hd' _)) | (cases b <;> simp [Instr.typeAssert, qu hd, Sem.run_bind])
       cases ok with
       | true =>
         obtain rfl := Zx hp1
         refine yx (u := .tuple #[uv, .bool true]) h ?_ ?_ hK
         · simp only [execOp, ho, Sem.run_bind, hr true, if_true, Result.andThen_ok, Sem.run_pure]
         · simp only [VA]
           refine ⟨[uv, .bool true], rfl, ?_⟩
           simp only [VAs, VA, VP]
           exact ⟨_, _, rfl, hua, _, _, rfl, rfl, rfl⟩
       | false =>
         obtain rfl := Zx hp1
         refine yx (u := uv) h ?_ hua hK
         have := hr false
         simp only [Bool.false_eq_true, if_false] at this
         simp only [execOp, ho, Sem.run_bind, this, Result.andThen_ok, Sem.run_pure]
     · rename_i he
       have hne : u ≠ t := beq_eq_false_iff_ne.1 he
       exact fails d hd hd' (.inr ⟨u, uv, hxe, hne⟩) hp1
   · simp only [VA, VP] at hx
     exact fails d hd hd' (.inl hx) hp1
   · simp [Rd.val] at hp1
 · simp [Rd.val] at hp1
theorem Y7 (hE : E.Ok) (h : Rel E.P X s mu ka cst act.tmps.toList w) (hp : (evOp E fr o).val s.view = some p) (hK : Next E.P X (s.app o.dst p) cst act K) : o.wp E.P act w K Q := by
 cases ho : o.op
 case move x => exact jB h (.inl ho) hp hK
 case assign x => exact jB h (.inr ho) hp hK
 case pick c x y => exact QzX h ho hp hK
 case alloc t => exact Zzn h ho hp hK
 case box t x => exact YzL h ho hp hK
 case build t ps => exact yzm h ho hp hK
 case buildSlice t n ps => exact QP h ho hp hK
 case load t x => exact qzW h ho hp hK
 case store t x y => exact Qzn h ho hp hK
 case makeChan t n => exact QD h ho hp hK
 case typeAssert x xt t ok => exact JP h ho hp hK
 case nilCheck x => exact jD h ho hp hK
 case binOp op t x y t2 => exact jzn h ho hp hK
 case unOp op t x => exact JzX h ho hp hK
 case convert t d x => exact j6 h ho hp hK
 case makeInterface t x => exact JX h ho hp hK
 case makeFunc f x y => exact qD h ho hp hK
 case makeSlice t x y => exact QK h ho hp hK
 case slice t x lo hi mx => exact qzm h ho hp hK
 case fieldAddr t x f => exact JL h ho hp hK
 case field t x f => exact zzm h ho hp hK
 case indexAddr t x y => exact zK h ho hp hK
 case index t x y => exact Jzn h ho hp hK
 case extract x k => exact Q5 h ho hp hK
 case call cl => exact QzW hE h ho hp hK
 all_goals (simp only [evOp, ho, Rd.val] at hp; cases hp)
end
end Go.Proofs.YtgfnpgnfklcicaaGreatS
namespace Go.Proofs.YtgfnpgnfklcicaaGreatS
open Go
def yn (b : Frame) (P : Program) (c : Code) (Q : Exit → Act → World → Prop) (a : Act) (w : World) : Prop :=
 ∀ (k : List Item) (cs : List Frame), ∃ e a' w', Q e a' w' ∧ Arrives P (lone (b.at a (.code c :: k)) cs w) b k cs e a' w'
theorem Jzf {P : Program} {c : Code} {Q : Exit → Act → World → Prop} {a : Act} {w : World} (h : ∀ b, yn b P c Q a w) : c.wp P Q a w := fun b k cs => h b k cs
theorem Je {b : Frame} {P : Program} {c : Code} {Q : Exit → Act → World → Prop} {a : Act} {w : World} (h : c.wp P Q a w) : yn b P c Q a w := fun k cs => h b k cs
section
variable {P : Program} {b : Frame} {Q : Exit → Act → World → Prop} {a : Act} {w : World} {c x y : Code}
theorem zyj {e : Exit} {m : Machine} {it : Item} {k : List Item} {cs : List Frame} (hp : it.plain = true) (he : e ≠ .normal) (h : Arrives P m b (it :: k) cs e a w) : Arrives P m b k cs e a w :=
 .pass hp (fun _ _ => .inl he) h
theorem zA {next : Act → World → Prop} {e : Exit} (he : e ≠ .normal) (h : Exit.then next Q e a w) : Q e a w := by
 cases e <;> first | exact absurd rfl he | exact h
theorem qzv (h : yn b P x (Exit.then (yn b P y Q) Q) a w) : yn b P (.seq x y) Q a w := fun k cs => by
 obtain ⟨e, a1, w1, hq, harr⟩ := h (.code y :: k) cs
 by_cases he : e = .normal
 · subst he
   obtain ⟨e2, a2, w2, hq2, harr2⟩ := hq k cs
   exact ⟨e2, a2, w2, hq2, .of_steps (.head step_seq harr) harr2⟩
 · exact ⟨e, a1, w1, zA he hq, .of_steps (.one step_seq) (zyj rfl he harr)⟩
theorem jzK {o : Operand} {t : Bool} (hc : a.eval o = .bool t) (h : yn b P (if t then x else y) Q a w) : yn b P (.cond o x y) Q a w := fun k cs => by
 obtain ⟨e, a1, w1, hq, harr⟩ := h k cs
 exact ⟨e, a1, w1, hq, .of_steps (.one (step_cond hc)) harr⟩
theorem Jyy {id : Nat} (h : yn b P c (Exit.inBlock id Q) a w) : yn b P (.block id c) Q a w := fun k cs => by
 obtain ⟨e, a1, w1, hq, harr⟩ := h (.inBlock id :: k) cs
 by_cases he : e = .exit id
 · subst he
   have hq' : Q .normal a1 w1 := by
    have : (if id = id then Q .normal a1 w1 else Q (.exit id) a1 w1) := hq
    rwa [if_pos rfl] at this
   exact ⟨.normal, a1, w1, hq', .head step_block (harr k (by simp [exitTo]))⟩
 · cases e with
   | normal => exact ⟨.normal, a1, w1, hq, .head step_block (Steps.trans harr (.one step_inBlock))⟩
   | exit j =>
     have hne : ¬ j = id := fun q => he (by rw [q])
     have hq' : Q (.exit j) a1 w1 := by
      have : (if j = id then Q .normal a1 w1 else Q (.exit j) a1 w1) := hq
      rwa [if_neg hne] at this
     refine ⟨.exit j, a1, w1, hq', fun k' hk => .head step_block (harr k' ?_)⟩
     have : (id == j) = false := by simpa using fun q => hne q.symm
     simp [exitTo, this, hk]
   | goto l => exact ⟨.goto l, a1, w1, hq, fun k' hk => .head step_block (harr k' (by simp [gotoIn, hk]))⟩
   | ret => exact ⟨.ret, a1, w1, hq, .of_steps (.one step_block) harr⟩
   | panic ch => exact ⟨.panic ch, a1, w1, hq, .of_steps (.one step_block) harr⟩
   | outgrown => exact ⟨.outgrown, a1, w1, hq, .of_steps (b := b) (k := k) (cs := cs) (e := .outgrown) (.one step_block) harr⟩
def QN (b : Frame) (P : Program) (c : Code) (Q : Exit → Act → World → Prop) : Nat → Act → World → Prop
 | 0, _, _ => False
 | n + 1, a, w => yn b P c (Exit.then (QN b P c Q n) Q) a w
theorem jzv {k : List Item} {cs : List Frame} : ∀ (n : Nat) (a : Act) (w : World), QN b P c Q n a w → ∃ e a' w', Q e a' w' ∧ Arrives P (lone (b.at a (.code c :: .inLoop c :: k)) cs w) b k cs e a' w'
 | 0, _, _, h => h.elim
 | n + 1, a, w, h => by
   obtain ⟨e, a1, w1, hq, harr⟩ := h (.inLoop c :: k) cs
   by_cases he : e = .normal
   · subst he
     obtain ⟨e2, a2, w2, hq2, harr2⟩ := jzv n a1 w1 hq (k := k) (cs := cs)
     exact ⟨e2, a2, w2, hq2, .of_steps (Steps.trans harr (.one step_inLoop)) harr2⟩
   · exact ⟨e, a1, w1, zA he hq, zyj rfl he harr⟩
theorem jzm (n : Nat) (h : QN b P c Q n a w) : yn b P (.loop c) Q a w := fun k cs => by
 obtain ⟨e, a1, w1, hq, harr⟩ := jzv (k := k) (cs := cs) n a w h
 exact ⟨e, a1, w1, hq, .of_steps (.one step_loop) harr⟩
theorem qS {k : List Item} {cs : List Frame} {m : Machine} {e : Exit} (he : ∀ l, e ≠ .goto l) (h : Arrives P m b (.inScope c :: k) cs e a w) : Arrives P m b k cs e a w := by
 cases e with
 | normal => exact Steps.trans h (.one step_inScope)
 | exit id => exact fun k' hk => h k' (by simp [exitTo, hk])
 | goto l => exact absurd rfl (he l)
 | ret => exact h
 | panic ch => exact h
 | outgrown => exact h
theorem zyx (h : yn b P c (Exit.noGoto Q) a w) : yn b P (.scope c) Q a w := fun k cs => by
 obtain ⟨e, a1, w1, hq, harr⟩ := h (.inScope c :: k) cs
 have he : ∀ l, e ≠ .goto l := fun l q => by subst q; exact hq.elim
 have hq' : Q e a1 w1 := by cases e <;> first | exact hq | exact hq.elim
 exact ⟨e, a1, w1, hq', .of_steps (.one step_scope) (qS he harr)⟩
theorem Yyb {rest : Code} (l : Nat) (hf : findLabel c l = some rest) (h : yn b P c (Exit.jump l (fun a w => yn b P rest (Exit.noGoto Q) a w) Q) a w) : yn b P (.scope c) Q a w := fun k cs => by
 obtain ⟨e, a1, w1, hq, harr⟩ := h (.inScope c :: k) cs
 by_cases he : ∃ l', e = .goto l'
 · obtain ⟨l', rfl⟩ := he
   obtain ⟨rfl, hJ⟩ := hq
   have hg : gotoIn l' (.inScope c :: k) = some (.code rest :: .inScope c :: k) := by simp [gotoIn, hf]
   obtain ⟨e2, a2, w2, hq2, harr2⟩ := hJ (.inScope c :: k) cs
   have he2 : ∀ l, e2 ≠ .goto l := fun l q => by subst q; exact hq2.elim
   have hq3 : Q e2 a2 w2 := by cases e2 <;> first | exact hq2 | exact hq2.elim
   exact ⟨e2, a2, w2, hq3, .of_steps (.head step_scope (harr _ hg)) (qS he2 harr2)⟩
 · have he' : ∀ l, e ≠ .goto l := fun l q => he ⟨l, q⟩
   have hq' : Q e a1 w1 := by cases e <;> first | exact hq | exact absurd rfl (he' _)
   exact ⟨e, a1, w1, hq', .of_steps (.one step_scope) (qS he' harr)⟩
end
def ql (f : FuncId) : Frame := { (default : Frame) with fn := f, kind := .normal }
theorem Qi {P : Program} {f : FuncId} {fn : Func} {c : Code} {args : Array Value} {w : World} {R : Ending → World → Prop} (hf : P.funcs[f]? = some fn) (hb : fn.body = some c)
 (h : yn (ql f) P c (bodyPost P fn R) { tmps := args ++ Array.replicate (fn.ntmps - args.size) undef, defers := [] } w) : Calls P f args w R := by
 intro cs
 have henter : Frame.enter P f args .normal = (ql f).at { tmps := args ++ Array.replicate (fn.ntmps - args.size) undef, defers := [] } [.code c] := by
  simp [Frame.enter, Frame.at, hf, hb, ql]
 obtain ⟨e, a', w', hq, harr⟩ := h [] cs
 rw [← henter] at harr
 have done : ∀ {fr : Frame}, Steps P (lone (Frame.enter P f args .normal) cs w) (lone fr cs w') → fr.mode = .returning → fr.fn = f → fr.kind = .normal → fr.defers = [] → fr.tmps = a'.tmps → (∃ v, (results fn a'.tmps).run P w' = .ok v w' ∧ R (.returned v) w') → ∃ e w2 fr2, R e w2 ∧ Comes P (lone (Frame.enter P f args .normal) cs w) (lone fr2 cs w2) e ∧ fr2.fn = f ∧ fr2.leaving P w2 e := by
  rintro fr h1 h2 h3 h4 h5 h6 ⟨v, h7, h8⟩
  exact ⟨.returned v, w', fr, h8, h1, h3, h2, h5, h4, fn, by rw [h3]; exact hf, by rw [h6]; exact h7⟩
 cases e with
 | normal => exact done (Steps.trans harr (.one step_end)) rfl rfl rfl hq.1 rfl hq.2
 | ret =>
   obtain ⟨todo, hs⟩ := harr
   exact done hs rfl rfl rfl hq.1 rfl hq.2
 | panic chain =>
   obtain ⟨todo, hs⟩ := harr
   exact ⟨.panicked chain, w', _, hq.2, hs, rfl, rfl, hq.1, fn, hf⟩
 | exit id => exact hq.elim
 | goto l => exact hq.elim
 | outgrown => exact ⟨.outgrown, w', ql f, hq, harr.resolve_left (by simp [ql]), rfl, trivial⟩
end Go.Proofs.YtgfnpgnfklcicaaGreatS
namespace Go.Proofs.YtgfnpgnfklcicaaGreatS
open Go Go.RowKit
def Ex.to : Ex → Exit
 | .normal => .normal
 | .exit id => .exit id
 | .goto l => .goto l
 | .ret => .ret
def Env.fits (E : Env) (b : Frame) : Prop := E.com = true → b.kind ≠ .early
theorem Env.fits_frame (E : Env) (f : FuncId) : E.fits (ql f) := fun _ => by simp [ql]
def YX (E : Env) (ec : Code → St → Tr (Ex × St)) : Prop :=
 ∀ (b : Frame), E.fits b → ∀ (c : Code) (s : St) (e : Ex) (s' : St), (ec c s).run = some (e, s') → ∀ (X : Out) mu ka cst (act : Act) w, Rel E.P X s mu ka cst act.tmps.toList w → act.defers = [] →
  ∀ Q : Exit → Act → World → Prop, (∀ mu' ka' (act' : Act) w', Rel E.P X s' mu' ka' cst act'.tmps.toList w' → act'.defers = [] → Q e.to act' w') → yn b E.P c Q act w
def Coh (tmps : List AV) (al : Al) : Prop := ∀ p ∈ al, tmps.length ≤ p.1 ∨ tmps.getD p.1 (.pv .undef) = tmps.getD p.2 (.pv .undef)
theorem zze {α : Type} (l : List α) (d : Nat) (v x : α) (h : l.length ≤ d ∨ l.getD d x = v) : l.set d v = l := by
 rcases h with h | h
 · exact List.set_eq_of_length_le h
 · apply List.ext_getElem?
   intro i
   rw [List.getElem?_set]
   by_cases e : d = i
   · subst e
     rw [if_pos rfl]
     split
     · rename_i hd
       rw [List.getD_eq_getElem?_getD, List.getElem?_eq_getElem hd] at h
       rw [List.getElem?_eq_getElem hd]
       exact congrArg some h.symm
     · rename_i hd
       rw [List.getElem?_eq_none (by omega)]
   · rw [if_neg e]
theorem yA {α β : Type} (f : α → β → α) (l : α) : ∀ (al : List β), (∀ p ∈ al, f l p = l) → al.foldl f l = l
 | [], _ => rfl
 | p :: al, h => by
   rw [List.foldl_cons, h p (by simp)]
   exact yA f l al fun q hq => h q (by simp [hq])
theorem Zzv {al : Al} {d : Nat} {v : AV} {l : List AV} (hc : Coh l al) (hd : l.getD d (.pv .undef) = v) : subs al d v l = l := by
 unfold subs
 rw [zze l d v (.pv .undef) (.inr hd)]
 refine yA _ l al fun p hp => ?_
 show (match p.2 == d with | true => l.set p.1 v | false => l) = l
 split
 · rename_i he
   have he' : p.2 = d := eq_of_beq he
   refine zze l p.1 v (.pv .undef) ?_
   rcases hc p hp with q | q
   · exact .inl q
   · exact .inr (by rw [q, he', hd])
 · rfl
theorem qA {α : Type} {s : St} {al : Al} {d : Nat} {k : St → Tr α} {r : α} (hc : Coh s.tmps al) (h : (qzg s al d k).run = some r) : (k s).run = some r := by
 unfold qzg at h
 split at h
 · rename_i b hb
   cases b
   · have e := Zzv hc hb
     simp only [Tr.run, cond_false] at h
     rw [e] at h
     exact h
   · have e := Zzv hc hb
     simp only [Tr.run, cond_true] at h
     rw [e] at h
     exact h
 · exact h
theorem Yzv {α : Type} {ops : Array Oper} {o : Oper} {s : St} {al : Al} {k : St → Tr α} {r : α} (hc : Coh s.tmps al) (h : (zyy ops o s al k).run = some r) : (k s).run = some r := by
 unfold zyy at h
 split at h
 · exact qA hc h
 · exact h
theorem Zu {α β : Type} {x : Tr α} {f : α → Tr β} {b : β} (h : (x.bind f).run = some b) : ∃ a, x.run = some a ∧ (f a).run = some b := by
 rw [Tr.run_bind] at h
 exact Option.bind_eq_some_iff.1 h
theorem QV (l : List AV) (d i : Nat) (v : AV) : (l.set d v).getD i (.pv .undef) = if d = i ∧ d < l.length then v else l.getD i (.pv .undef) := by
 rw [List.getD_eq_getElem?_getD, List.getD_eq_getElem?_getD, List.getElem?_set]
 by_cases e : d = i
 · subst e
   by_cases h : d < l.length
   · simp [h]
   · simp [h]
 · simp [e]
theorem Coh.put {s : St} {al : Al} {o : Oper} {v : AV} (hc : Coh s.tmps al) (hv : ∀ t, o.op = .move (.tmp t) → (∃ b, v = .pv (.bool b)) → v = s.tmps.getD t (.pv .undef)) : Coh (s.put o.dst v).tmps (al.put o v) := by
 unfold Al.put St.put
 cases hd : o.dst with
 | none => exact hc
 | some d =>
   simp only
   have old : Coh (s.tmps.set d v) (al.filter fun p => !(p.1 == d) && !(p.2 == d)) := by
    intro p hp
    rw [List.mem_filter] at hp
    obtain ⟨h1, h2⟩ := hp
    simp only [Bool.and_eq_true, Bool.not_eq_true', beq_eq_false_iff_ne] at h2
    rcases hc p h1 with q | q
    · exact .inl (by simpa using q)
    · refine .inr ?_
      rw [QV, QV, if_neg (fun e => h2.1 e.1.symm), if_neg (fun e => h2.2 e.1.symm)]
      exact q
   split
   · rename_i t b hop
     split
     · exact old
     · rename_i hne
       have hne' : t ≠ d := by
        intro e; subst e; simp at hne
       intro p hp
       rcases List.mem_cons.1 hp with rfl | hp
       · rcases Nat.lt_or_ge d s.tmps.length with hlt | hge
         · refine .inr ?_
           rw [QV, QV, if_pos ⟨rfl, hlt⟩, if_neg (fun e => hne' e.1.symm)]
           exact hv t hop ⟨_, rfl⟩
         · exact .inl (by simpa using hge)
       · exact old p hp
   · exact old
section
variable {P : Program} {X : Out} {s : St} {mu : Nat → Option Nat} {ka : Nat → Nat} {cst : List (List Value)} {act : Act} {a : List Value} {w : World} {E : Env} {fr : Nat} {o : Oper} {p : AV × List Eff} {K : Act → World → Prop} {Q : Exit → Act → World → Prop} {ops : Array Oper}
theorem JV {c : Cx} : VA P c (.tup []) undef := by
 simp only [VA]
 exact ⟨[], rfl, by simp [VAs]⟩
theorem zJ (h : Rel P X s mu ka cst act.tmps.toList w) {dst : Option Nat} (hK : Next P X (s.app dst (.tup [], [])) cst act K) : K (act.put dst undef) w := by
 refine hK mu ka (act.put dst undef) w ?_ (by cases dst <;> rfl)
 rw [Jt, Ql]
 exact h.put dst JV
def QyP : Value → Option Bool
 | .bool b => some b
 | _ => none
theorem jA {j d : Nat} {v : Value} (hd : (ops[j]?).bind (·.dst) = some d) (hv : act.eval (.tmp d) = v) : yielded ops act.tmps j = QyP v := by
 unfold yielded
 rw [hd]
 simp only [Option.bind_some]
 have h2 : act.tmps[d]?.getD undef = v := by
  rw [← hv, Y5]
  simp
 cases hq : act.tmps[d]? with
 | none =>
   rw [hq] at h2
   simp only [Option.getD_none] at h2
   subst h2
   rfl
 | some x =>
   rw [hq] at h2
   simp only [Option.getD_some] at h2
   subst h2
   cases x <;> rfl
theorem Q7 (hE : E.Ok) (h : Rel E.P X s mu ka cst act.tmps.toList w) (hp : (Zb E fr ops o).val s.view = some p) (hK : Next E.P X (s.app o.dst p) cst act K) :
 if Region.wanted o (yielded ops act.tmps) then o.wp E.P act w K Q ∨ (o.asks E.P act w ∧ LetsOut Q) else K (act.put o.dst undef) w := by
 unfold Zb at hp
 cases hg : o.guard with
 | none =>
   rw [hg] at hp
   have : Region.wanted o (yielded ops act.tmps) = true := by simp [Region.wanted, hg]
   rw [this, if_pos rfl]
   exact .inl (Y7 hE h hp hK)
 | some jw =>
   obtain ⟨j, want⟩ := jw
   rw [hg] at hp
   simp only at hp
   split at hp
   · rename_i d hd
     simp only [Rd.val] at hp
     have hr := h.tmp d
     have hwant : ∀ y, yielded ops act.tmps j = y → Region.wanted o (yielded ops act.tmps) = (y == some want) := by
      intro y hy
      simp [Region.wanted, hg, hy]
     split at hp
     · rename_i b hb
       have hb' : s.tmps.getD d (.pv .undef) = .pv (.bool b) := hb
       rw [hb'] at hr
       have hr' := Jo hr
       simp only [VP] at hr'
       have hy := hwant _ (jA (ops := ops) hd hr')
       rw [hy]
       cases want <;> cases b
       · simp only [Rd.val, cond_false] at hp
         simp
         exact .inl (Y7 hE h hp hK)
       · simp only [Rd.val, cond_true] at hp
         obtain rfl := Zx hp
         simp
         exact zJ h hK
       · simp only [Rd.val, cond_false] at hp
         obtain rfl := Zx hp
         simp
         exact zJ h hK
       · simp only [Rd.val, cond_true] at hp
         simp
         exact .inl (Y7 hE h hp hK)
     · rename_i hb
       have hb' : s.tmps.getD d (.pv .undef) = .tup [] := hb
       rw [hb'] at hr
       obtain rfl := Zx hp
       simp only [VA] at hr
       obtain ⟨vs, hr, hvs⟩ := hr
       simp only [VAs] at hvs
       subst hvs
       have hy := hwant _ (jA (ops := ops) hd hr)
       rw [hy]
       simp
       exact zJ h hK
     · simp [Rd.val] at hp
   · simp [Rd.val] at hp
theorem yyx (hg : o.guard = none ∨ (∃ b, p.1 = .pv (.bool b))) {t : Nat} (ho : o.op = .move (.tmp t)) (hp : (Zb E fr ops o).val s.view = some p) : p.1 = s.tmps.getD t (.pv .undef) := by
 have base : (evOp E fr o).val s.view = some p → p.1 = s.tmps.getD t (.pv .undef) := by
  intro hp
  simp only [evOp, ho] at hp
  obtain ⟨v, h1, h2⟩ := val_bind hp
  obtain rfl := Zx h2
  simp only [rdO, Rd.val, Option.some.injEq] at h1
  exact h1.symm
 unfold Zb at hp
 cases hgd : o.guard with
 | none => rw [hgd] at hp; exact base hp
 | some jw =>
   obtain ⟨j, want⟩ := jw
   rw [hgd] at hp hg
   obtain ⟨b0, hb0⟩ : ∃ b, p.1 = .pv (.bool b) := by
    rcases hg with q | q
    · cases q
    · exact q
   have no : ∀ {q : AV × List Eff}, q = (AV.tup [], ([] : List Eff)) → p = q → False := by
    rintro q rfl rfl
    simp at hb0
   simp only at hp
   split at hp
   · simp only [Rd.val] at hp
     split at hp
     · rename_i b _
       cases want <;> cases b <;> simp only [Rd.val, cond_false, cond_true] at hp
       · exact base hp
       · exact (no rfl (Zx hp)).elim
       · exact (no rfl (Zx hp)).elim
       · exact base hp
     · exact (no rfl (Zx hp)).elim
     · simp [Rd.val] at hp
   · simp [Rd.val] at hp
def yJ (tmps : Array Value) : ResultVar → Sem Value
 | .tmp t => pure (tmps.getD t undef)
 | .cell a t => do loadVar t (← asAddr (tmps.getD a undef))
theorem Zzm (h : Rel E.P X s mu ka cst act.tmps.toList w) : ∀ (rs : List ResultVar) (vs : List AV), (jr.rdOs' E rs).val s.view = some vs → ∃ us, (rs.mapM (yJ act.tmps)).run E.P w = .ok us w ∧ VAs E.P (cx E.P X s.mem mu ka w) vs us := by
 intro rs
 induction rs with
 | nil =>
   intro vs hv
   simp only [jr.rdOs', Rd.val, Option.some.injEq] at hv
   subst hv
   exact ⟨[], by simp, by simp [VAs]⟩
 | cons r rs ih =>
   intro vs hv
   cases r with
   | tmp t =>
     simp only [jr.rdOs', Rd.val] at hv
     obtain ⟨r, h1, h2⟩ := val_bind hv
     simp only [Rd.val, Option.some.injEq] at h2
     subst h2
     obtain ⟨us, h3, h4⟩ := ih r h1
     refine ⟨act.tmps.getD t undef :: us, ?_, ?_⟩
     · simp [List.mapM_cons, yJ, h3]
     · simp only [VAs]
       exact ⟨_, _, rfl, h.tmp t, h4⟩
   | cell a t =>
     simp only [jr.rdOs', Rd.val] at hv
     obtain ⟨q, h0, hv2⟩ := val_bind hv
     obtain ⟨r, h1, h2⟩ := val_bind hv2
     simp only [Rd.val, Option.some.injEq] at h2
     subst h2
     obtain ⟨us, h3, h4⟩ := ih r h1
     obtain ⟨g1, u, g2, g3⟩ := yS h h0 (h.tmp a)
     have g4 : (yJ act.tmps (.cell a t)).run E.P w = .ok u w := by
      have e : act.eval (.tmp a) = act.tmps.getD a undef := rfl
      rw [e] at g2
      show (asAddr (act.tmps.getD a undef) >>= fun ad => loadVar t ad).run E.P w = .ok u w
      generalize act.tmps.getD a undef = q at g2 ⊢
      unfold Instr.loadAt Instr.sureAddr at g2
      cases q with
      | pointer ad =>
        cases ad with
        | none => simp at g2
        | some ad => simpa [asAddr] using g2
      | _ => simp at g2
     refine ⟨u :: us, ?_, ?_⟩
     · simp only [List.mapM_cons, Sem.run_bind, g4, Result.andThen_ok, h3, Sem.run_pure]
     · simp only [VAs]
       exact ⟨_, _, rfl, g3, h4⟩
theorem zzV (fn : Func) (tmps : Array Value) : results fn tmps = (fn.results.mapM (yJ tmps) >>= fun vs => pure (if h : vs.size = 1 then vs[0] else .tuple vs)) := by
 unfold results
 congr 1
theorem zn (h : Rel E.P X s mu ka cst act.tmps.toList w) {fn : Func} {v : AV} (hp : (jr E fn s).run = some v) : ∃ u, (results fn act.tmps).run E.P w = .ok u w ∧ VA E.P (cx E.P X s.mem mu ka w) v u := by
 unfold jr at hp
 obtain ⟨r, h1, h2⟩ := Zu hp
 obtain ⟨us, h3, h4⟩ := Zzm h fn.results.toList r.1 (Rd.val_of_run h1)
 have hm : (fn.results.mapM (yJ act.tmps)).run E.P w = .ok us.toArray w := by
  have e : fn.results = fn.results.toList.toArray := by simp
  rw [e, List.mapM_toArray]
  simp only [Sem.run_map, h3, Result.andThen_ok]
 rw [zzV, Sem.run_bind, hm, Result.andThen_ok, Sem.run_pure]
 refine ⟨_, rfl, ?_⟩
 generalize hr1 : r.1 = rv at h2 h4
 have hl := h4.length
 split at h2
 · rename_i v1
   simp only [Tr.run, Option.some.injEq] at h2
   subst h2
   simp only [VAs] at h4
   obtain ⟨u, us', rfl, h5, rfl⟩ := h4
   simpa using h5
 · rename_i hn
   simp only [Tr.run, Option.some.injEq] at h2
   subst h2
   have hne : ¬ us.toArray.size = 1 := by
    rw [List.size_toArray, hl]
    intro q
    obtain ⟨x, hx⟩ := List.length_eq_one_iff.1 q
    exact hn x hx
   rw [dif_neg hne]
   simp only [VA]
   exact ⟨us, rfl, h4⟩
end
theorem qJ (r : Nat → Option Nat) (j : Nat) : ∀ m : List (Nat × Ob), (∀ x ∈ m, r x.1 ≠ some j) → Zz j (Jg r m) = none
 | [], _ => rfl
 | x :: m, h => by
   have ih := qJ r j m fun y hy => h y (by simp [hy])
   simp only [Jg]
   cases hx : r x.1 with
   | none => exact ih
   | some k =>
     have hk : k ≠ j := fun e => h x (by simp) (by rw [hx, e])
     simp only [Zz, if_neg hk]
     exact ih
theorem ZA (r : Nat → Option Nat) {i j : Nat} (hr : r i = some j) : ∀ m : List (Nat × Ob), (∀ x ∈ m, r x.1 = some j → x.1 = i) → Zz j (Jg r m) = (Zz i m).map (YT r)
 | [], _ => rfl
 | x :: m, h => by
   have ih := ZA r hr m fun y hy => h y (by simp [hy])
   simp only [Jg]
   cases hx : r x.1 with
   | none =>
     have hk : x.1 ≠ i := fun e => by rw [e, hr] at hx; cases hx
     rw [show Zz i (x :: m) = Zz i m from if_neg hk]
     exact ih
   | some k =>
     by_cases e : k = j
     · subst e
       have := h x (by simp) hx
       rw [show Zz i (x :: m) = some x.2 from if_pos this]
       simp only [Zz, if_true, Option.map_some]
     · have hk : x.1 ≠ i := fun q => by rw [q, hr] at hx; cases hx; exact e rfl
       rw [show Zz i (x :: m) = Zz i m from if_neg hk]
       simp only [Zz, if_neg e]
       exact ih
theorem jS {id : Nat} {o : Ob} : ∀ {m : List (Nat × Ob)}, Zz id m = some o → ∃ x ∈ m, x.1 = id
 | [], h => by cases h
 | x :: m, h => by
   by_cases e : x.1 = id
   · exact ⟨x, by simp, e⟩
   · rw [show Zz id (x :: m) = Zz id m from if_neg e] at h
     obtain ⟨y, hy, he⟩ := jS h
     exact ⟨y, by simp [hy], he⟩
structure Cx.Few (r : Nat → Option Nat) (c c' : Cx) : Prop where
 keep : Keep c.w c.S c'.w c'.S
 there : ∀ id j, r id = some j → ((∃ b, c.mu id = some b) ∨ (∃ x, c.rt id = some x)) → c'.mu j = c.mu id ∧ c'.rt j = c.rt id ∧ c'.ka j = c.ka id
section
variable {P : Program} {c c' : Cx} {dead : Nat → Option Nat}
theorem VA.undef' {v : Value} : VA P c (.pv .undef) v := by simp only [VA, VP]
theorem VA.scrub1 (k : c.Few dead c') {a : AV} {v : Value} (hf : jg a = true) (h : VA P c a v) : VA P c' (scrub1 dead a) v := by
 cases a with
 | pv p => simp only [Go.Proofs.YtgfnpgnfklcicaaGreatS.scrub1, VA] at h ⊢; exact VP.keep k.keep p v h
 | lit t xs =>
   simp only [Go.Proofs.YtgfnpgnfklcicaaGreatS.scrub1, VA] at h ⊢
   obtain ⟨A, us, h1, h2, h3, h4⟩ := h
   exact ⟨A, us, h1, h2, h3.keep k.keep, VPss.keep k.keep xs us h4⟩
 | ptr id off =>
   simp only [Go.Proofs.YtgfnpgnfklcicaaGreatS.scrub1]
   cases hd : dead id with
   | some j =>
     simp only [VA] at h ⊢
     obtain ⟨b, h1, h2⟩ := h
     obtain ⟨k1, k2, k3⟩ := k.there id j hd (.inl ⟨b, h1⟩)
     exact ⟨b, k1.trans h1, h2⟩
   | none => exact VA.undef'
 | own id =>
   simp only [Go.Proofs.YtgfnpgnfklcicaaGreatS.scrub1]
   cases hd : dead id with
   | some j =>
     simp only [VA] at h ⊢
     obtain ⟨t, n, h1, h2⟩ := h
     obtain ⟨k1, k2, k3⟩ := k.there id j hd (.inr ⟨_, h1⟩)
     rw [k1, k2, k3]
     exact ⟨t, n, h1, h2⟩
   | none => exact VA.undef'
 | rpt id i off =>
   simp only [Go.Proofs.YtgfnpgnfklcicaaGreatS.scrub1]
   cases hd : dead id with
   | some j =>
     simp only [VA] at h ⊢
     obtain ⟨b, t, n, h1, h2⟩ := h
     obtain ⟨k1, k2, k3⟩ := k.there id j hd (.inl ⟨b, h1⟩)
     exact ⟨b, t, n, k1.trans h1, by rw [k2]; exact h2⟩
   | none => exact VA.undef'
 | ept t xs i off =>
   simp only [Go.Proofs.YtgfnpgnfklcicaaGreatS.scrub1, VA] at h ⊢
   obtain ⟨b, o, us, h1, h2, h3, h4, h5⟩ := h
   exact ⟨b, o, us, h1, h2, h3.keep k.keep, VPss.keep k.keep xs us h4, h5⟩
 | fn f a b =>
   cases a with
   | cons => simp [jg] at hf
   | nil =>
     cases b with
     | cons => simp [jg] at hf
     | nil =>
       simp only [Go.Proofs.YtgfnpgnfklcicaaGreatS.scrub1, VA, VAs] at h ⊢
       exact h
 | chn id =>
   simp only [Go.Proofs.YtgfnpgnfklcicaaGreatS.scrub1]
   cases hd : dead id with
   | some j =>
     simp only [VA] at h ⊢
     obtain ⟨b, h1, h2⟩ := h
     obtain ⟨k1, k2, k3⟩ := k.there id j hd (.inl ⟨b, h1⟩)
     exact ⟨b, k1.trans h1, h2⟩
   | none => exact VA.undef'
 | pts id offs => simp [jg] at hf
 | pel id offs i => simp [jg] at hf
 | psel id offs i => simp [jg] at hf
 | iface t a => simp [jg] at hf
 | agg cs => simp [jg] at hf
 | tup cs => simp [jg] at hf
theorem VAs.scrub1 (k : c.Few dead c') : ∀ {as : List AV} {vs : List Value}, as.all jg = true → VAs P c as vs → VAs P c' (as.map (Go.Proofs.YtgfnpgnfklcicaaGreatS.scrub1 dead)) vs
 | [], _, _, h => by simpa only [VAs, List.map_nil] using h
 | a :: as, _, hf, h => by
   simp only [List.all_cons, Bool.and_eq_true] at hf
   simp only [VAs, List.map_cons] at h ⊢
   obtain ⟨u, us, h1, h2, h3⟩ := h
   exact ⟨u, us, h1, VA.scrub1 k hf.1 h2, VAs.scrub1 k hf.2 h3⟩
theorem VA.scrub (k : c.Few dead c') {a : AV} {v : Value} (h : VA P c a v) : VA P c' (Go.Proofs.YtgfnpgnfklcicaaGreatS.scrub dead a) v := by
 have plain : ∀ {a : AV}, VA P c a v → VA P c' (match jg a with | true => Go.Proofs.YtgfnpgnfklcicaaGreatS.scrub1 dead a | false => .pv .undef) v := by
  intro a h
  cases hf : jg a
  · exact VA.undef'
  · exact VA.scrub1 k hf h
 cases a with
 | agg cs =>
   simp only [Go.Proofs.YtgfnpgnfklcicaaGreatS.scrub]
   cases hf : cs.all jg
   · exact VA.undef'
   · simp only [VA] at h ⊢
     obtain ⟨vs, h1, h2⟩ := h
     exact ⟨vs, h1, VAs.scrub1 k hf h2⟩
 | tup cs =>
   simp only [Go.Proofs.YtgfnpgnfklcicaaGreatS.scrub]
   cases hf : cs.all jg
   · exact VA.undef'
   · simp only [VA] at h ⊢
     obtain ⟨vs, h1, h2⟩ := h
     exact ⟨vs, h1, VAs.scrub1 k hf h2⟩
 | fn f a b =>
   simp only [Go.Proofs.YtgfnpgnfklcicaaGreatS.scrub]
   cases hf : (a.all jg && b.all jg)
   · exact VA.undef'
   · simp only [Bool.and_eq_true] at hf
     simp only [VA] at h ⊢
     obtain ⟨as, bs, h1, h2, h3⟩ := h
     exact ⟨as, bs, h1, VAs.scrub1 k hf.1 h2, VAs.scrub1 k hf.2 h3⟩
 | pv p => exact plain h
 | lit t xs => exact plain h
 | ptr id off => exact plain h
 | own id => exact plain h
 | rpt id i off => exact plain h
 | ept t xs i off => exact plain h
 | pts id offs => exact plain h
 | pel id offs i => exact plain h
 | psel id offs i => exact plain h
 | chn id => exact plain h
 | iface t a => exact plain h
theorem VAs.scrub (k : c.Few dead c') : ∀ {as : List AV} {vs : List Value}, VAs P c as vs → VAs P c' (as.map (Go.Proofs.YtgfnpgnfklcicaaGreatS.scrub dead)) vs
 | [], _, h => by simpa only [VAs, List.map_nil] using h
 | a :: as, _, h => by
   simp only [VAs, List.map_cons] at h ⊢
   obtain ⟨u, us, h1, h2, h3⟩ := h
   exact ⟨u, us, h1, VA.scrub k h2, VAs.scrub k h3⟩
theorem VAs.maskT (live : List Nat) : ∀ {as : List AV} {vs : List Value} (i : Nat), VAs P c as vs → VAs P c (Go.Proofs.YtgfnpgnfklcicaaGreatS.maskT live i as) vs
 | [], _, _, h => by simpa only [VAs, Go.Proofs.YtgfnpgnfklcicaaGreatS.maskT] using h
 | a :: as, _, i, h => by
   simp only [VAs, Go.Proofs.YtgfnpgnfklcicaaGreatS.maskT] at h ⊢
   obtain ⟨u, us, h1, h2, h3⟩ := h
   refine ⟨u, us, h1, ?_, VAs.maskT live (i + 1) h3⟩
   cases live.contains i
   · exact VA.undef'
   · exact h2
end
section
variable {P : Program} {X : Out} {s : St} {mu : Nat → Option Nat} {ka : Nat → Nat} {cst : List (List Value)} {a : List Value} {w : World}
theorem YA {r : Nat → Option Nat} {ob : Ob} (h : Go.Proofs.YtgfnpgnfklcicaaGreatS.live (YT r ob)) : Go.Proofs.YtgfnpgnfklcicaaGreatS.live ob := by
 cases ob with
 | box cs => exact trivial
 | chan q => exact trivial
 | row m t xs => exact h
theorem ZzK {r : Nat → Option Nat} {ob : Ob} {o : Nat} (h : yV P (YT r ob) o) : yV P ob o := by
 cases ob with
 | box cs => exact trivial
 | chan q => exact trivial
 | row m t xs => exact h
theorem Rel.cut (h : Rel P X s mu ka cst a w) (tm : List AV) (htm : VAs P (cx P X s.mem mu ka w) tm a) (r : Nat → Option Nat) (c0 : Nat) (hone : QX r s.mem = true) : ∃ mu' ka', Rel P X (s.cut tm r c0) mu' ka' cst a w := by
 have one : ∀ x ∈ s.mem, ∀ j, r x.1 = some j → zX r s.mem j = some x.1 := by
  intro x hx j hj
  unfold QX at hone
  have := List.all_eq_true.1 hone x hx
  rw [hj] at this
  simpa using this
 have back : ∀ {j i}, zX r s.mem j = some i → r i = some j ∧ (∀ x ∈ s.mem, r x.1 = some j → x.1 = i) := by
  intro j i hw
  refine ⟨?_, fun x hx hr => ?_⟩
  · unfold zX at hw
    obtain ⟨x, hx, rfl⟩ := Option.map_eq_some_iff.1 hw
    have := List.find?_some hx
    simpa using this
  · have := one x hx j hr
    rw [hw] at this
    exact (Option.some.inj this).symm
 have hfind : ∀ j, Zz j (Jg r s.mem) = (zX r s.mem j).bind fun i => (Zz i s.mem).map (YT r) := by
  intro j
  cases hw : zX r s.mem j with
  | some i =>
    obtain ⟨b1, b2⟩ := back hw
    exact ZA r b1 s.mem b2
  | none =>
    refine qJ r j s.mem fun x hx hr => ?_
    have := one x hx j hr
    rw [hw] at this
    cases this
 have there : ∀ {id j ob}, r id = some j → Zz id s.mem = some ob → zX r s.mem j = some id := by
  intro id j ob hr hf
  obtain ⟨x, hx, rfl⟩ := jS hf
  exact one x hx j hr
 have k : (cx P X s.mem mu ka w).Few r (cx P X (Jg r s.mem) (fun j => (zX r s.mem j).bind mu) (fun j => match zX r s.mem j with | some i => ka i | none => 0) w) := by
  refine ⟨fun b o u hc hs => ⟨hc, fun q => hs ?_⟩, fun id j hr hp => ?_⟩
  · rcases q with q | ⟨j, ob, g1, g2, g3⟩
    · exact .inl q
    · rw [hfind] at g1
      cases hw : zX r s.mem j with
      | none => rw [hw] at g1; cases g1
      | some i =>
        simp only [hw, Option.bind_some] at g1 g2
        obtain ⟨ob0, h1, rfl⟩ := Option.map_eq_some_iff.1 g1
        exact .inr ⟨i, ob0, h1, g2, ZzK g3⟩
  · have hin : ∃ ob, Zz id s.mem = some ob := by
     rcases hp with ⟨b, hb⟩ | ⟨x, hx⟩
     · exact (h.blk id b hb).2
     · obtain ⟨_, _, _, hx', _⟩ := Yi hx
       exact ⟨_, hx'⟩
    obtain ⟨ob, hob⟩ := hin
    have hw := there hr hob
    refine ⟨?_, ?_, ?_⟩
    · show (zX r s.mem j).bind mu = mu id
      rw [hw]; rfl
    · show rtOf _ j = rtOf s.mem id
      unfold rtOf
      rw [hfind, hw, Option.bind_some, hob]
      cases ob <;> rfl
    · show (match zX r s.mem j with | some i => ka i | none => 0) = ka id
      rw [hw]
 refine ⟨_, _, h.bel, ?_, ?_, ?_, VAs.scrub k htm, ?_, ?_⟩
 · intro j b hb
   cases hw : zX r s.mem j with
   | none => rw [hw] at hb; cases hb
   | some i =>
     rw [hw] at hb
     obtain ⟨h1, ob, h2⟩ := h.blk i b hb
     refine ⟨h1, YT r ob, ?_⟩
     show Zz j (Jg r s.mem) = _
     rw [hfind, hw, Option.bind_some, h2]
     rfl
 · intro i j b oi oj hi hj fi fj li lj
   have fi' : Zz i (Jg r s.mem) = some oi := fi
   have fj' : Zz j (Jg r s.mem) = some oj := fj
   rw [hfind] at fi' fj'
   cases hwi : zX r s.mem i with
   | none => rw [hwi] at hi; cases hi
   | some i' =>
     cases hwj : zX r s.mem j with
     | none => rw [hwj] at hj; cases hj
     | some j' =>
       simp only [hwi, hwj, Option.bind_some] at hi hj fi' fj'
       obtain ⟨oi', gi, rfl⟩ := Option.map_eq_some_iff.1 fi'
       obtain ⟨oj', gj, rfl⟩ := Option.map_eq_some_iff.1 fj'
       have := h.inj i' j' b oi' oj' hi hj gi gj (YA li) (YA lj)
       have hi2 := (back hwi).1
       have hj2 := (back hwj).1
       rw [this, hj2] at hi2
       exact (Option.some.inj hi2).symm
 · intro j ob hf
   have hf' : Zz j (Jg r s.mem) = some ob := hf
   rw [hfind] at hf'
   cases hw : zX r s.mem j with
   | none => rw [hw] at hf'; cases hf'
   | some i =>
     simp only [hw, Option.bind_some] at hf' ⊢
     obtain ⟨ob0, h1, rfl⟩ := Option.map_eq_some_iff.1 hf'
     rcases h.obs i ob0 h1 with ⟨b, hb, ho⟩ | ⟨hn, m, t, rfl, hz⟩
     · refine .inl ⟨b, hb, ?_⟩
       cases ob0 with
       | box cs =>
         obtain ⟨T, vs, g1, g2⟩ := ho
         exact ⟨T, vs, g1, VAs.scrub k g2⟩
       | chan q =>
         obtain ⟨buf, r1, r2, g1, g2⟩ := ho
         refine ⟨buf, r1, r2, g1, ?_⟩
         cases q with
         | none => exact g2
         | some v =>
           obtain ⟨u, g3, g4⟩ := g2
           exact ⟨u, g3, VA.scrub k g4⟩
       | row m t xs =>
         obtain ⟨g1, g2, g3, g4⟩ := ho
         refine ⟨g1, g2, g3, ?_⟩
         cases m with
         | zero =>
           obtain ⟨us, g5, g6⟩ := g4
           exact ⟨us, g5.keep k.keep, VPss.keep k.keep xs us g6⟩
         | succ m =>
           obtain ⟨vs, g5, g6, g7, g8⟩ := g4
           exact ⟨vs, g5, g6, g7, VPss.keep k.keep xs _ g8⟩
     · exact .inr ⟨hn, m, t, rfl, hz⟩
 · simpa [St.cut] using h.stk.1
 · intro i x vs hx hv
   have hx' : (s.stack.map fun x => (x.1, x.2.1, x.2.2.map (Go.Proofs.YtgfnpgnfklcicaaGreatS.scrub r)))[i]? = some x := hx
   simp only [List.getElem?_map] at hx'
   obtain ⟨y, hy, rfl⟩ := Option.map_eq_some_iff.1 hx'
   exact VAs.scrub k (h.stk.2 i y vs hy hv)
theorem Rel.mask (h : Rel P X s mu ka cst a w) (lv : List Nat × List Nat) (c0 : Nat) : ∃ mu' ka', Rel P X (s.mask lv c0) mu' ka' cst a w := by
 unfold St.mask
 cases hone : QX (zzn s (maskT lv.1 0 s.tmps) c0) s.mem with
 | false => exact ⟨mu, ka, h⟩
 | true => exact h.cut _ (VAs.maskT lv.1 0 h.tms) _ c0 hone
theorem Rel.wakeIn {t id : Nat} (hs : (jy P t).length = Qx P t) (h : Rel P X s mu ka cst a w) (hf : Zz id s.mem = none) : ∀ l : List Nat, Rel P X { s with mem := Go.Proofs.YtgfnpgnfklcicaaGreatS.wakeIn t id s.mem l } mu ka cst a w
 | [] => h
 | i :: l => by
   have ih := Rel.wakeIn hs h hf l
   unfold Go.Proofs.YtgfnpgnfklcicaaGreatS.wakeIn
   cases hi : Zz i s.mem with
   | none => exact ih
   | some ob =>
   cases ob with
   | row m t' xs => exact ih
   | chan q => exact ih
   | box cs =>
   show Rel P X { s with mem := match cs.findIdx? (QzN t) with | some j => _ | none => _ } mu ka cst a w
   cases hj : cs.findIdx? (QzN t) with
   | none => exact ih
   | some j =>
   obtain ⟨m1, m2, m3⟩ := h.newNil (id := id) (m := 1) hf hs
   have hne : id ≠ i := fun e => by subst e; rw [hf] at hi; cases hi
   have hi' : Zz i ((id, .row 1 t []) :: s.mem) = some (.box cs) := by rw [Yy, if_neg hne]; exact hi
   obtain ⟨hjl, hjn, _⟩ := List.findIdx?_eq_some_iff_getElem.1 hj
   have hcj : cs[j]? = some (.lit t []) := by
    rw [List.getElem?_eq_getElem hjl]
    generalize cs[j] = v at hjn
    cases v <;> simp only [QzN, Bool.false_eq_true] at hjn
    rename_i u xs
    cases xs <;> simp only [QzN, Bool.false_eq_true, beq_iff_eq] at hjn
    rw [hjn]
   have hS := zg (P := P) (S0 := X.S0) (mu := mu) (ob' := .box (cs.set j (.own id))) hi' (fun o q => by simp [yV])
   have hrt : rtOf (Yt i (.box (cs.set j (.own id))) ((id, .row 1 t []) :: s.mem)) i = rtOf ((id, .row 1 t []) :: s.mem) i := by
    simp only [rtOf, Jy i _ _ hi', hi']
   have hl : (cx P X ((id, .row 1 t []) :: s.mem) mu ka w).Le (cx P X (Yt i (.box (cs.set j (.own id))) ((id, .row 1 t []) :: s.mem)) mu ka w) := by
    refine ⟨fun b o u hc hq => ⟨hc, fun q => hq (hS b o q)⟩, fun _ _ q => q, fun i' x hx => ⟨?_, rfl, rfl⟩⟩
    by_cases e : i' = i
    · subst e; exact hrt.trans hx
    · have : rtOf (Yt i (.box (cs.set j (.own id))) ((id, .row 1 t []) :: s.mem)) i' = rtOf ((id, .row 1 t []) :: s.mem) i' := by
       simp only [rtOf, zy i i' _ e]
      exact this.trans hx
   refine (m3.upd (ob' := .box (cs.set j (.own id))) hi' m3.bel hS (fun b o u hc _ => hc) hrt (fun _ => trivial) (fun _ _ => rfl) ?_ ?_).2
   · intro q
     rcases m3.obs i _ hi' with ⟨b, hb, _⟩ | ⟨_, m, t', e, _⟩
     · rw [q] at hb; cases hb
     · cases e
   · intro b hb
     rcases m3.obs i _ hi' with ⟨b', hb', T, vs, g1, g2⟩ | ⟨_, m, t', e, _⟩
     · rw [hb] at hb'
       cases hb'
       refine ⟨T, vs, g1, ?_⟩
       refine VAs.of_get (by simp [g2.length]) fun k a' v h3 h4 => ?_
       by_cases e : k = j
       · subst e
         rw [List.getElem?_set_self hjl] at h3
         cases h3
         obtain ⟨v', h5, h6⟩ := g2.get hcj
         rw [h4] at h5
         cases h5
         simp only [VA] at h6
         obtain ⟨A, us, rfl, _⟩ := h6
         have hown : Zz id (Yt i (.box (cs.set k (.own id))) ((id, .row 1 t []) :: s.mem)) = some (.row 1 t []) := by
          rw [zy i id _ hne, Yy, if_pos rfl]
         simp only [VA]
         exact ⟨t, 0, Jn hown, .inr ⟨m1, rfl, A, rfl⟩⟩
       · rw [List.getElem?_set_ne (Ne.symm e)] at h3
         obtain ⟨v', h5, h6⟩ := g2.get h3
         rw [h4] at h5
         cases h5
         exact VA.le hl _ _ h6
     · cases e
theorem Rel.wake (h : Rel P X s mu ka cst a w) (t : Nat) : Rel P X (s.wake P t) mu ka cst a w := by
 unfold St.wake
 cases jzg t s.mem with
 | some j => exact h
 | none =>
 cases hf : Zz (s.cur * 1000 + 700 + t) s.mem with
 | some o => exact h
 | none =>
 cases hs : decide ((jy P t).length = Qx P t) with
 | false => exact h
 | true => exact Rel.wakeIn (of_decide_eq_true hs) h hf _
theorem Rel.home (h : Rel P X s mu ka cst a w) (t : Nat) : ∃ mu' ka', Rel P X (s.home t) mu' ka' cst a w := by
 unfold St.home
 cases jzg t s.mem with
 | none => exact ⟨mu, ka, h⟩
 | some j =>
 show ∃ mu' ka', Rel P X (match j == s.cur * 1000 + 700 + t with | true => s | false => _) mu' ka' cst a w
 cases j == s.cur * 1000 + 700 + t with
 | true => exact ⟨mu, ka, h⟩
 | false =>
 show ∃ mu' ka', Rel P X (match QX (Zzg j (s.cur * 1000 + 700 + t)) s.mem with | true => _ | false => s) mu' ka' cst a w
 cases hone : QX (Zzg j (s.cur * 1000 + 700 + t)) s.mem with
 | false => exact ⟨mu, ka, h⟩
 | true => exact h.cut s.tmps h.tms _ s.ctr hone
theorem Rel.wakes : ∀ (l : List Nat) {s : St} {mu : Nat → Option Nat} {ka : Nat → Nat}, Rel P X s mu ka cst a w → ∃ mu' ka', Rel P X (s.wakes P l) mu' ka' cst a w
 | [], s, mu, ka, h => ⟨mu, ka, h⟩
 | t :: l, s, mu, ka, h => by
   obtain ⟨mu1, ka1, h1⟩ := (h.wake t).home t
   exact Rel.wakes l h1
end
def OneTo (b : Frame) (P : Program) (ops : Array Oper) (i : Nat) (a : Act) (w : World) (K : Act → World → Prop) : Prop :=
 ∀ (k : List Item) (cs : List Frame) (rest : List Nat), ∃ a' w', K a' w' ∧ Steps P (lone (b.at a (.inRegion ops (i :: rest) :: k)) cs w) (lone (b.at a' (.inRegion ops rest :: k)) cs w')
def OpsTo (b : Frame) (P : Program) (ops : Array Oper) (Q : Exit → Act → World → Prop) (l : List Nat) (a : Act) (w : World) : Prop :=
 ∀ (k : List Item) (cs : List Frame), ∃ e a' w', Q e a' w' ∧ Arrives P (lone (b.at a (.inRegion ops l :: k)) cs w) b k cs e a' w'
section
variable {P : Program} {b : Frame} {ops : Array Oper} {Q : Exit → Act → World → Prop} {K : Act → World → Prop} {i : Nat} {l : List Nat} {a : Act} {w : World} {md : Region.Mode}
theorem OpsTo.nil (h : Q .normal a w) : OpsTo b P ops Q [] a w := fun k cs => ⟨.normal, a, w, h, .one step_region_end⟩
theorem OpsTo.cons (h : OneTo b P ops i a w (OpsTo b P ops Q l)) : OpsTo b P ops Q (i :: l) a w := fun k cs => by
 obtain ⟨a1, w1, h1, h2⟩ := h k cs l
 obtain ⟨e, a', w', hq, harr⟩ := h1 k cs
 exact ⟨e, a', w', hq, .of_steps h2 harr⟩
theorem OneTo.mono {K' : Act → World → Prop} (h : OneTo b P ops i a w K) (hk : ∀ a' w', K a' w' → K' a' w') : OneTo b P ops i a w K' := fun k cs rest => by
 obtain ⟨a1, w1, h1, h2⟩ := h k cs rest
 exact ⟨a1, w1, hk _ _ h1, h2⟩
theorem YzK {id : Nat} (h : OpsTo b P ops Q (List.range ops.size) a w) : yn b P (Code.region id ops false) Q a w := fun k cs => by
 obtain ⟨e, a', w', q, r⟩ := h k cs
 exact ⟨e, a', w', q, .of_steps (.one step_region) r⟩
theorem zd (h : wpOp P ops (fun _ _ _ => False) i K a w) : OneTo b P ops i a w K := by
 intro k cs rest
 unfold wpOp at h
 cases ho : ops[i]? with
 | none =>
   rw [ho] at h
   have hs := step_op_skip (P := P) (b := b) (a := a) (k := k) (cs := cs) (w := w) (ops := ops) (i := i) (rest := rest) (by simp [ho])
   rw [ho] at hs
   exact ⟨a, w, h, .one hs⟩
 | some o =>
   rw [ho] at h
   simp only at h
   cases hw : Region.wanted o (yielded ops a.tmps) with
   | false =>
     rw [hw] at h
     have hs := step_op_skip (P := P) (b := b) (a := a) (k := k) (cs := cs) (w := w) (ops := ops) (i := i) (rest := rest) (by simp [ho, hw])
     rw [ho] at hs
     exact ⟨_, w, h, .one hs⟩
   | true =>
     rw [hw, if_pos rfl] at h
     rcases h with h | ⟨_, _, _, h⟩
     case inr => exact h.elim
     have hg := stepG_op (P := P) (b := b) (k := k) (cs := cs) (w := w) (rest := rest) ho hw
     have hfin : ∀ v, (b.at a (.inRegion ops (i :: rest) :: k)).finish v = b.at (a.put o.dst v) (.inRegion ops rest :: k) := by
      intro v
      rw [Frame.finish_at, ho]
      rfl
     unfold Oper.wp at h
     cases hr : (execOp a.eval o).run P w with
     | halt x w' =>
       rw [hr] at h
       cases x <;> simp only [Oper.upon] at h
     | ok n w' =>
       rw [hr] at h
       cases n <;> simp only [Oper.upon] at h
       case value v =>
        refine ⟨_, w', h, .one (step_lone_go ?_)⟩
        rw [hg, ← hfin]
        simp [stepG.apply, hr]
       case skip =>
        refine ⟨_, w', h, .one (step_lone_go ?_)⟩
        rw [hg, ← hfin]
        simp [stepG.apply, hr]
       case defer d =>
        have hd : ({ b.at a (.inRegion ops (i :: rest) :: k) with defers := d :: a.defers } : Frame).finish undef = b.at ({ a with defers := d :: a.defers }.put o.dst undef) (.inRegion ops rest :: k) := by
         have := Frame.finish_at b { a with defers := d :: a.defers } ops i rest k undef
         rw [ho] at this
         exact this
        refine ⟨_, w', h, .one (step_lone_go ?_)⟩
        rw [hg]
        simp only [stepG.apply, Sem.runT_eq, hr, GStep.bare_after]
        exact congrArg (fun fr => GStep.go { frame := fr, callers := cs, status := .running, dying := none } w') hd
       case enter f args =>
        obtain ⟨e, w2, fr, hR, hsteps, _, hleave⟩ := h (b.at a (.inRegion ops (i :: rest) :: k) :: cs)
        have henter : step P (lone (b.at a (.inRegion ops (i :: rest) :: k)) cs w) = .next (lone (Frame.enter P f args .normal) (b.at a (.inRegion ops (i :: rest) :: k) :: cs) w') :=
         step_lone_go (by rw [hg]; simp [stepG.apply, hr, Frame.at])
        cases e with
        | returned v =>
          refine ⟨_, w2, hR, .head henter (hsteps.trans (.one ?_))⟩
          rw [← hfin]
          exact step_leave_returned hleave
        | panicked chain => exact hR.elim
        | outgrown =>
          obtain ⟨_, _, q⟩ := hR
          exact q.elim
       case row row args =>
        obtain ⟨v, w2, hR, hsteps⟩ := h (b.at a (.inRegion ops (i :: rest) :: k)) cs
        have henter : step P (lone (b.at a (.inRegion ops (i :: rest) :: k)) cs w) = .next (lone (Frame.ofRow P row args .normal) (b.at a (.inRegion ops (i :: rest) :: k) :: cs) w') :=
         step_lone_go (by rw [hg]; simp [stepG.apply, hr, Frame.at])
        refine ⟨_, w2, hR, .head henter ?_⟩
        rw [← hfin]
        exact hsteps
def qyx (b : Frame) (P : Program) (md : Region.Mode) (ops : Array Oper) (Q : Exit → Act → World → Prop) : Nat → Array Bool → Act → World → Prop
 | 0, listed, a, w => Region.ready md ops listed = [] ∧ Q .normal a w
 | n + 1, listed, a, w => (Region.ready md ops listed = [] → Q .normal a w) ∧ ∀ i ∈ Region.ready md ops listed, OneTo b P ops i a w (qyx b P md ops Q n (listed.setIfInBounds i true))
theorem yyj : ∀ (n t : Nat) (listed : Array Bool) (a : Act) (w : World), qyx b P md ops Q n listed a w → OpsTo b P ops Q (Region.linearise.go md ops n t listed []) a w
 | 0, t, listed, a, w, h => by
   have : OpsTo b P ops Q [] a w := .nil h.2
   simpa [Region.linearise.go] using this
 | n + 1, t, listed, a, w, h => by
   obtain ⟨h0, h1⟩ := h
   simp only [Region.linearise.go]
   change OpsTo b P ops Q (match (Region.ready md ops listed)[t % (Region.ready md ops listed).length]? with
    | some i => Region.linearise.go md ops n (t / (Region.ready md ops listed).length) (listed.setIfInBounds i true) [i]
    | none => [].reverse) a w
   cases hi : (Region.ready md ops listed)[t % (Region.ready md ops listed).length]? with
   | none =>
     have hnil : Region.ready md ops listed = [] := by
      cases hr : Region.ready md ops listed with
      | nil => rfl
      | cons x xs =>
        rw [hr] at hi
        have := List.getElem?_eq_none_iff.1 hi
        have hlt : t % (x :: xs).length < (x :: xs).length := Nat.mod_lt _ (by simp)
        omega
     exact .nil (h0 hnil)
   | some i =>
     simp only
     rw [linearise_go_acc, List.reverse_singleton, List.singleton_append]
     exact .cons ((h1 i (List.mem_of_getElem? hi)).mono fun a' w' q => yyj n _ _ _ _ q)
theorem yzV {id : Nat} (hm : P.follows .mixedOrders = true) (h : qyx b P .any ops Q ops.size (Array.replicate ops.size false) a { w with drawn := w.drawn + 1 }) : yn b P (Code.region id ops true) Q a w := fun k cs => by
 have h2 : OpsTo b P ops Q (Region.schedule (P.follows .mixedOrders) ops (w.tape w.drawn (.order b.fn id))) a { w with drawn := w.drawn + 1 } := by
  simp only [Region.schedule, hm, Bool.true_or, if_true]
  exact yyj ops.size _ _ a _ h
 obtain ⟨e, a', w', q, r⟩ := h2 k cs
 exact ⟨e, a', w', q, .of_steps (.one step_region_draw) r⟩
end
section
variable {P : Program} {X : Out} {s : St} {mu : Nat → Option Nat} {ka : Nat → Nat} {cst : List (List Value)} {act : Act} {a : List Value} {w : World} {E : Env} {fr : Nat} {o : Oper} {p : AV × List Eff} {K : Act → World → Prop} {ops : Array Oper}
theorem Ji {c b : Nat} {cap : Nat} {buf : Array Value} {cl tm : Bool} {r1 r2 : Nat} (h : b ≠ c) : (w.setChan c cap buf cl r1 r2 tm).heap[b]? = w.heap[b]? := by
 simp [World.setChan, Array.getElem?_setIfInBounds, Ne.symm h]
theorem Rel.chan_le (h : Rel P X s mu ka cst a w) {id c : Nat} {q q' : Option AV} (hf : Zz id s.mem = some (.chan q)) (hm : mu id = some c) {buf' : Array Value} {r1 r2 : Nat} :
 (cx P X s.mem mu ka w).Le (cx P X (Yt id (.chan q') s.mem) mu ka (w.setChan c 1 buf' false r1 r2 false)) := by
 rcases h.obs id _ hf with ⟨c', hc', buf, t1, t2, hg, _⟩ | ⟨q, _⟩
 case inr => rw [hm] at q; cases q
 rw [hm] at hc'
 cases hc'
 have hg' : w.heap[c]? = some (.chan 1 buf false t1 t2 false) := hg
 have hcell : ∀ b o u, w.cell? ⟨b, o, none⟩ = some u → (w.setChan c 1 buf' false r1 r2 false).cell? ⟨b, o, none⟩ = some u := by
  intro b o u hu
  by_cases e : b = c
  · subst e; simp [World.cell?, hg'] at hu
  · rw [World.cell?_of_block (w := w) (Ji e)]
    exact hu
 have hsm := zg (P := P) (S0 := X.S0) (mu := mu) (ob' := .chan q') hf fun o _ => (trivial : yV P (.chan q) o)
 refine ⟨fun b o u hc hs => ⟨hcell b o u hc, fun q => hs (hsm b o q)⟩, fun _ _ q => q, fun i x hx => ⟨?_, rfl, rfl⟩⟩
 by_cases e : i = id
 · subst e
   have hx' : rtOf s.mem i = some x := hx
   simp [rtOf, hf] at hx'
 · show rtOf _ i = _
   unfold rtOf
   rw [zy id i _ e]
   exact hx
theorem Rel.chan (h : Rel P X s mu ka cst a w) {id c : Nat} {q q' : Option AV} (hf : Zz id s.mem = some (.chan q)) (hm : mu id = some c) {buf' : Array Value} {r1 r2 : Nat}
 (hq : match q' with | none => buf' = #[] | some v => ∃ u, buf' = #[u] ∧ VA P (cx P X s.mem mu ka w) v u) :
 Rel P X { s with mem := Yt id (.chan q') s.mem } mu ka cst a (w.setChan c 1 buf' false r1 r2 false) := by
 rcases h.obs id _ hf with ⟨c', hc', buf, t1, t2, hg, _⟩ | ⟨q, _⟩
 case inr => rw [hm] at q; cases q
 rw [hm] at hc'
 cases hc'
 have hg' : w.heap[c]? = some (.chan 1 buf false t1 t2 false) := hg
 have hlt : c < w.heap.size := (Array.getElem?_eq_some_iff.1 hg').1
 have hno : ∀ o u, w.cell? ⟨c, o, none⟩ = some u → False := by
  intro o u hu
  simp [World.cell?, hg'] at hu
 have hcell : ∀ b o u, w.cell? ⟨b, o, none⟩ = some u → (w.setChan c 1 buf' false r1 r2 false).cell? ⟨b, o, none⟩ = some u := by
  intro b o u hu
  by_cases e : b = c
  · subst e; exact (hno o u hu).elim
  · rw [World.cell?_of_block (w := w) (Ji e)]
    exact hu
 have hsm := zg (P := P) (S0 := X.S0) (mu := mu) (ob' := .chan q') hf fun o _ => (trivial : yV P (.chan q) o)
 have hl : (cx P X s.mem mu ka w).Le (cx P X (Yt id (.chan q') s.mem) mu ka (w.setChan c 1 buf' false r1 r2 false)) := by
  refine ⟨fun b o u hc hs => ⟨hcell b o u hc, fun q => hs (hsm b o q)⟩, fun _ _ q => q, fun i x hx => ⟨?_, rfl, rfl⟩⟩
  by_cases e : i = id
  · subst e
    have hx' : rtOf s.mem i = some x := hx
    simp [rtOf, hf] at hx'
  · show rtOf _ i = _
    unfold rtOf
    rw [zy id i _ e]
    exact hx
 refine (h.upd (ob' := .chan q') hf (Go.Conc.below_setChan h.bel (h.blk id c hm).1 _ _ _ _ _ _) hsm (fun b o u hc _ => hcell b o u hc) ?_ (fun _ => trivial) ?_ ?_ ?_).2
 · simp [rtOf, Jy id _ s.mem hf, hf]
 · intro b' q
   refine Ji fun e => ?_
   rcases q with q | q
   · exact q (e ▸ hm)
   · exact q trivial
 · intro q; rw [hm] at q; cases q
 · intro b' q
   rw [hm] at q
   cases q
   refine ⟨buf', r1, r2, Go.Conc.heap_setChan w c 1 buf' false r1 r2 false hlt, ?_⟩
   cases q' with
   | none => exact hq
   | some v =>
     obtain ⟨u, h1, h2⟩ := hq
     exact ⟨u, h1, VA.le hl v u h2⟩
theorem View.chn_some {id : Nat} {q : Option AV} (h : s.view.chn id = some q) : Zz id s.mem = some (.chan q) := by
 unfold View.chn at h
 split at h
 · rename_i q0 hf
   cases h
   exact hf
 · cases h
theorem yze {id : Nat} {q q' : Option AV} (hf : Zz id s.mem = some (.chan q)) (dst : Option Nat) (v : AV) : s.app dst (v, [.cset id q']) = ({ s with mem := Yt id (.chan q') s.mem }.put dst v) := by
 rw [Ql]
 show ({ s with mem := Eff.on s.mem (.cset id q') }.put dst v) = _
 simp only [Eff.on, hf]
theorem qzV {b : Frame} (hfb : E.fits b) {i : Nat} (ho : ops[i]? = some o) (h : Rel E.P X s mu ka cst act.tmps.toList w) (hc : yzg o = true) (hp : (ZzN E o).val s.view = some p) (hK : Next E.P X (s.app o.dst p) cst act K) : OneTo b E.P ops i act w K := by
 have hg : o.guard = none := by
  unfold yzg at hc
  simp only [Bool.and_eq_true, Option.isNone_iff_eq_none] at hc
  exact hc.1
 have hw : Region.wanted o (yielded ops act.tmps) = true := by simp [Region.wanted, hg]
 unfold ZzN at hp
 obtain ⟨hcom, hp1⟩ := Qy hp
 clear hp
 have hne : b.kind ≠ .early := hfb hcom
 intro k cs rest
 have hfin : ∀ v, (b.at act (.inRegion ops (i :: rest) :: k)).finish v = b.at (act.put o.dst v) (.inRegion ops rest :: k) := by
  intro v
  rw [Frame.finish_at, ho]
  rfl
 split at hp1
 · rename_i x y hop
   obtain ⟨cv, h1, hp2⟩ := val_bind hp1
   obtain ⟨v, h2, hp3⟩ := val_bind hp2
   clear hp1 hp2
   split at hp3
   · rename_i id
     simp only [Rd.val] at hp3
     split at hp3
     · rename_i hq
       obtain ⟨hd, hp4⟩ := Qy hp3
       simp only [Rd.val, Option.some.injEq] at hp4
       subst hp4
       have hd' : o.dst = none := by simpa using hd
       have hf := View.chn_some hq
       have hcx := h.op h1
       simp only [VA] at hcx
       obtain ⟨c, hm, hcv⟩ := hcx
       rcases h.obs id _ hf with ⟨c', hc', buf, t1, t2, hgh, hbuf⟩ | ⟨q, _⟩
       case inr =>
        have hm' : mu id = some c := hm
        rw [hm'] at q; cases q
       have hm' : mu id = some c := hm
       rw [hm'] at hc'
       cases hc'
       have hgh' : w.heap[c]? = some (.chan 1 #[] false t1 t2 false) := by
        have : buf = #[] := hbuf
        rw [← this]
        exact hgh
       have hex : (execOp act.eval o).run E.P w = .ok (.comm #[Go.Conc.scase c (act.eval y) (.tuple #[])] true .send) w := by
        simp [execOp, hop, Go.Conc.scase, hcv]
       have hst := Go.Conc.step_lone_send_room (P := E.P) (Go.Conc.stepG_comm (main := true) (k := k) (cs := cs) (rest := rest) ho hw hne hex) hgh' (by simp)
       rw [hfin] at hst
       have hrel := h.chan hf hm' (q' := some v) (buf' := (#[] : Array Value).push (act.eval y)) (r1 := t1 + 1) (r2 := t2) ⟨act.eval y, rfl, h.op h2⟩
       rw [yze hf, hd'] at hK
       refine ⟨_, _, hK mu ka act _ hrel rfl, .one ?_⟩
       rw [hd'] at hst
       exact hst
     · simp [Rd.val] at hp3
   · simp [Rd.val] at hp3
 · rename_i cases_ blocking hop
   split at hp1
   · rename_i cc hcs
     obtain ⟨hgd, hp2⟩ := Qy hp1
     simp only [Bool.and_eq_true, Option.isNone_iff_eq_none] at hgd
     obtain ⟨cv, h1, hp3⟩ := val_bind hp2
     clear hp1 hp2
     obtain ⟨z, hz⟩ : ∃ z, (zeroValue cc.elem).run E.P w = .ok z w := by
      have h2 := hgd.2
      unfold JyQ at h2
      split at h2
      · rename_i inf hinf
        obtain ⟨z, hz⟩ := Option.isSome_iff_exists.1 h2
        exact ⟨z, by simp [zeroValue, typeInfo, hinf, hz]⟩
      · cases h2
     have hca : cases_ = #[cc] := by
      apply Array.ext'
      exact hcs
     split at hp3
     · rename_i id
       simp only [Rd.val] at hp3
       have hcx := h.op h1
       simp only [VA] at hcx
       obtain ⟨c, hm, hcv⟩ := hcx
       have hm' : mu id = some c := hm
       have hex : (execOp act.eval o).run E.P w = .ok (.comm #[Go.Conc.rcase c z] false .select) w := by
        rw [hca] at hop
        simp [execOp, hop, Go.Conc.rcase, hcv, hgd.1, hz, Sem.run_bind]
       split at hp3
       · rename_i v hq
         simp only [Rd.val, Option.some.injEq] at hp3
         subst hp3
         have hf := View.chn_some hq
         rcases h.obs id _ hf with ⟨c', hc', buf, t1, t2, hgh, u, rfl, hu⟩ | ⟨q, _⟩
         case inr => rw [hm'] at q; cases q
         rw [hm'] at hc'
         cases hc'
         have hst := Go.Conc.step_lone_select_recv_buf (P := E.P) (Go.Conc.stepG_comm (main := true) (k := k) (cs := cs) (rest := rest) ho hw hne hex) hgh (by simp)
         rw [hfin] at hst
         have hrel := h.chan hf hm' (q' := none) (buf' := (#[u] : Array Value).extract 1 1) (r1 := t1) (r2 := t2 + 1) (by simp)
         rw [yze hf] at hK
         refine ⟨_, _, ?_, .one hst⟩
         have hv : VA E.P (cx E.P X (Yt id (.chan none) s.mem) mu ka (w.setChan c 1 ((#[u] : Array Value).extract 1 1) false t1 (t2 + 1) false)) (.tup [.pv (.int .i64 0), .pv (.bool true), v]) (.tuple #[goInt 0, .bool true, u]) := by
          have hl : (cx E.P X s.mem mu ka w).Le (cx E.P X (Yt id (.chan none) s.mem) mu ka (w.setChan c 1 ((#[u] : Array Value).extract 1 1) false t1 (t2 + 1) false)) := h.chan_le hf hm'
          have hu' := VA.le hl v u hu
          simp only [VA]
          refine ⟨[goInt 0, .bool true, u], rfl, ?_⟩
          simp only [VAs, VA, VP]
          exact ⟨_, _, rfl, rfl, _, _, rfl, rfl, _, _, rfl, hu', rfl⟩
         exact hK mu ka _ _ (by rw [Jt]; exact hrel.put o.dst hv) (by cases o.dst <;> rfl)
       · rename_i hq
         simp only [Rd.val, Option.some.injEq] at hp3
         subst hp3
         have hf := View.chn_some hq
         rcases h.obs id _ hf with ⟨c', hc', buf, t1, t2, hgh, hbuf⟩ | ⟨q, _⟩
         case inr => rw [hm'] at q; cases q
         rw [hm'] at hc'
         cases hc'
         have hbuf : buf = #[] := hbuf
         subst hbuf
         have hst := Go.Conc.step_lone_select_default (P := E.P) (Go.Conc.stepG_comm (main := true) (k := k) (cs := cs) (rest := rest) ho hw hne hex) hgh
         rw [hfin] at hst
         refine ⟨_, _, ?_, .one hst⟩
         have hv : VA E.P (cx E.P X s.mem mu ka w) (.tup [.pv (.int .i64 (-1)), .pv (.bool false), .pv .undef]) (.tuple #[goInt (-1), .bool false, z]) := by
          simp only [VA]
          refine ⟨[goInt (-1), .bool false, z], rfl, ?_⟩
          simp only [VAs, VA, VP]
          exact ⟨_, _, rfl, rfl, _, _, rfl, rfl, _, _, rfl, trivial, rfl⟩
         rw [Ql] at hK
         exact hK mu ka _ _ (by rw [Jt]; exact h.put o.dst hv) (by cases o.dst <;> rfl)
       · simp [Rd.val] at hp3
     · simp [Rd.val] at hp3
   · simp [Rd.val] at hp1
 · simp [Rd.val] at hp1
theorem jJ (hE : E.Ok) {b : Frame} (hfb : E.fits b) {i : Nat} (ho : ops[i]? = some o) (h : Rel E.P X s mu ka cst act.tmps.toList w) (hp : (qzx E fr ops o).val s.view = some p) (hK : Next E.P X (s.app o.dst p) cst act K) : OneTo b E.P ops i act w K := by
 unfold qzx at hp
 split at hp
 · rename_i hc
   exact qzV hfb ho h hc hp hK
 · refine zd ?_
   unfold wpOp
   rw [ho]
   exact Q7 hE h hp hK
theorem jQ (hg : o.guard = none ∨ (∃ b, p.1 = .pv (.bool b))) {t : Nat} (ho : o.op = .move (.tmp t)) (hp : (qzx E fr ops o).val s.view = some p) : p.1 = s.tmps.getD t (.pv .undef) := by
 unfold qzx at hp
 split at hp
 · rename_i hc
   unfold yzg at hc
   rw [ho] at hc
   simp at hc
 · exact yyx hg ho hp
end
section
variable {P : Program} {X : Out} {s : St} {mu : Nat → Option Nat} {ka : Nat → Nat} {cst : List (List Value)} {act : Act} {a : List Value} {w : World} {E : Env} {fr : Nat} {o : Oper} {p : AV × List Eff} {K : Act → World → Prop} {Q : Exit → Act → World → Prop} {ops : Array Oper}
theorem Qzv (h : Rel E.P X s mu ka cst act.tmps.toList w) {f : Nat} {args : Rd (List AV)} {vs : List AV} (hw : QC E s.view o = some (f, args)) (hv : args.val s.view = some vs) :
 ∃ cl fo first cap, o.op = .call cl ∧ cl.callee = .value fo ∧ act.eval fo = .func (.func f) first cap ∧ VAs E.P (cx E.P X s.mem mu ka w) vs (first ++ cl.args.map act.eval ++ cap).toList := by
 unfold QC at hw
 cases ho : o.op
 case call cl =>
  rw [ho] at hw
  simp only at hw
  cases hc : cl.callee
  case value fo =>
   rw [hc] at hw
   simp only at hw
   cases fo
   case func g =>
    simp only at hw
    cases hO : E.O g
    · rw [hO] at hw
      simp only [Option.some.injEq, Prod.mk.injEq] at hw
      obtain ⟨rfl, rfl⟩ := hw
      refine ⟨cl, .func g, #[], #[], rfl, hc, rfl, ?_⟩
      have := h.opsL hv
      rw [← Array.toList_map] at this
      simpa using this
    · rw [hO] at hw; cases hw
   case tmp t =>
    simp only at hw
    have ht := h.tmp t
    have e : s.view.tmp t = s.tmps.getD t (.pv .undef) := rfl
    rw [e] at hw
    generalize s.tmps.getD t (.pv .undef) = q at hw ht
    cases q
    case fn f' first cap =>
     cases f'
     case func g =>
      simp only at hw
      have hw' : some (g, (rdOs cl.args.toList).bind fun vs => Rd.ret (first ++ vs ++ cap)) = some (f, args) := by
       cases hT : jzN E g
       case true => rw [hT] at hw; cases hw
       rw [hT] at hw
       simp only at hw
       cases hO : E.O g
       · rw [hO] at hw; exact hw
       · rw [hO] at hw
         cases cap
         · cases hw
         · exact hw
      clear hw
      simp only [Option.some.injEq, Prod.mk.injEq] at hw'
      obtain ⟨rfl, rfl⟩ := hw'
      obtain ⟨us, h1, h2⟩ := val_bind hv
      simp only [Rd.val, Option.some.injEq] at h2
      subst h2
      simp only [VA] at ht
      obtain ⟨as, bs, h3, h4, h5⟩ := ht
      have h6 := h.opsL h1
      rw [← Array.toList_map] at h6
      refine ⟨cl, .tmp t, as.toArray, bs.toArray, rfl, hc, h3, ?_⟩
      simpa using (h4.append h6).append h5
     all_goals cases hw
    case pv q =>
     cases q
     case fn g =>
      simp only at hw
      have ht' := Jo ht
      simp only [VP] at ht'
      cases hO : E.O g
      · rw [hO] at hw
        simp only [Option.some.injEq, Prod.mk.injEq] at hw
        obtain ⟨rfl, rfl⟩ := hw
        refine ⟨cl, .tmp t, #[], #[], rfl, hc, ht', ?_⟩
        have := h.opsL hv
        rw [← Array.toList_map] at this
        simpa using this
      · rw [hO] at hw; cases hw
     all_goals cases hw
    all_goals cases hw
   all_goals cases hw
  all_goals (rw [hc] at hw; cases hw)
 all_goals (rw [ho] at hw; cases hw)
theorem QzK (h : Rel P X s mu ka cst a w) {vs : List AV} {us : List Value} (hv : VAs P (cx P X s.mem mu ka w) vs us) (n cur ctr fn : Nat) :
 Rel P X { tmps := vs ++ List.replicate (n - vs.length) (.tup []), stack := (s.cur, s.fn, s.tmps) :: s.stack, mem := s.mem, cur := cur, ctr := ctr, fn := fn } mu ka (a :: cst) (us ++ List.replicate (n - us.length) undef) w := by
 refine ⟨h.bel, h.blk, h.inj, h.obs, ?_, ?_, ?_⟩
 · refine hv.append ?_
   rw [hv.length]
   generalize n - vs.length = k
   refine VAs.of_get (by simp) fun i x v h1 h2 => ?_
   rw [List.getElem?_replicate] at h1 h2
   split at h1
   · simp_all
     subst h1
     subst h2
     exact JV
   · cases h1
 · simp [h.stk.1]
 · intro i x vs' h1 h2
   cases i with
   | zero =>
     simp only [List.getElem?_cons_zero, Option.some.injEq] at h1 h2
     subst h1
     subst h2
     exact h.tms
   | succ i =>
     simp only [List.getElem?_cons_succ] at h1 h2
     exact h.stk.2 i x vs' h1 h2
theorem JzK {s1 : St} {cur g : Nat} {tmps : List AV} {st : List (Nat × Nat × List AV)} {b : List Value} (h : Rel P X s1 mu ka (a :: cst) b w) (hs : s1.stack = (cur, g, tmps) :: st) :
 Rel P X { s1 with tmps := tmps, stack := st, cur := cur, fn := g } mu ka cst a w := by
 refine ⟨h.bel, h.blk, h.inj, h.obs, ?_, ?_, ?_⟩
 · exact h.stk.2 0 (cur, g, tmps) a (by rw [hs]; rfl) rfl
 · have := h.stk.1
   rw [hs] at this
   simpa using this
 · intro i x vs h1 h2
   exact h.stk.2 (i + 1) x vs (by rw [hs]; exact h1) h2
theorem Jzv (hE : E.Ok) {ec : Code → St → Tr (Ex × St)} (hec : YX E ec) (h : Rel E.P X s mu ka cst act.tmps.toList w) {f : Nat} {args : Rd (List AV)} {vs : List AV} {r : AV × St}
 (hw : QC E s.view o = some (f, args)) (hv : args.val s.view = some vs) (hr : (ZzM E ec s f vs).run = some r) (hK : Next E.P X (r.2.put o.dst r.1) cst act K) : o.wp E.P act w K Q := by
 obtain ⟨cl, fo, first, cap, ho, hc, hfo, hvs⟩ := Qzv h hw hv
 unfold ZzM at hr
 cases hf : E.P.funcs[f]?
 · rw [hf] at hr; simp [Tr.run] at hr
 · rename_i fn
   rw [hf] at hr
   simp only at hr
   cases hb : fn.body
   · rw [hb] at hr; simp [Tr.run] at hr
   · rename_i c
     rw [hb] at hr
     simp only at hr
     obtain ⟨q, h1, h2⟩ := Zu hr
     clear hr
     unfold Oper.wp
     rw [jY hE ho hc hfo hf (by rw [hb]; rfl), Oper.upon_enter]
     refine Qi hf hb ?_
     have hent := QzK h hvs fn.ntmps s.ctr (s.ctr + 1) f
     have e1 : (vs.length) = (first ++ cl.args.map act.eval ++ cap).toList.length := hvs.length.symm
     refine hec (ql f) (E.fits_frame f) c _ q.1 q.2 (show _ = some (q.1, q.2) from h1) X mu ka (act.tmps.toList :: cst) _ w ?_ rfl _ ?_
     · simpa using hent
     · intro mu' ka' act' w' hrel hd
       have fin : (q.1 = .normal ∨ q.1 = .ret) → ((jr E fn q.2).bind fun v => match q.2.stack with
        | (cur, g, tmps) :: st => .ret (v, { q.2 with tmps, stack := st, cur, fn := g })
        | [] => .fail).run = some r → ∃ v, (results fn act'.tmps).run E.P w' = .ok v w' ∧ K (act.put o.dst v) w' := by
        intro _ h2
        obtain ⟨v, h3, h4⟩ := Zu h2
        obtain ⟨u, h5, h6⟩ := zn hrel h3
        refine ⟨u, h5, ?_⟩
        cases hst : q.2.stack with
        | nil => rw [hst] at h4; simp [Tr.run] at h4
        | cons y st =>
          obtain ⟨cur, g, tmps⟩ := y
          rw [hst] at h4
          simp only [Tr.run, Option.some.injEq] at h4
          subst h4
          refine hK mu' ka' (act.put o.dst u) w' ?_ (by cases o.dst <;> rfl)
          rw [Jt]
          exact (JzK hrel hst).put o.dst h6
       cases hq : q.1 <;> rw [hq] at h2 fin <;> simp only at h2
       · exact ⟨hd, fin (.inl rfl) h2⟩
       · simp [Tr.run] at h2
       · simp [Tr.run] at h2
       · exact ⟨hd, fin (.inr rfl) h2⟩
theorem zzJ (s : St) (dst : Option Nat) (p : AV × List Eff) : (s.app dst p).tmps = (s.put dst p.1).tmps := by
 cases dst <;> rfl
theorem Coh.nil {tmps : List AV} : Coh tmps [] := fun p hp => by cases hp
theorem ZJ (hE : E.Ok) {b : Frame} (hfb : E.fits b) {ec : Code → St → Tr (Ex × St)} (hec : YX E ec) : ∀ (l : List Nat) (s : St) (al : Al) (s' : St), (yzn E ec ops l s al).run = some s' → Coh s.tmps al →
 ∀ mu ka cst (act : Act) w, Rel E.P X s mu ka cst act.tmps.toList w → act.defers = [] →
 (∀ mu' ka' (act' : Act) w', Rel E.P X s' mu' ka' cst act'.tmps.toList w' → act'.defers = [] → Q .normal act' w') → OpsTo b E.P ops Q l act w
 | [], s, al, s', hr, _, mu, ka, cst, act, w, h, hd, hQ => by
   simp only [yzn, Tr.run, Option.some.injEq] at hr
   subst hr
   exact .nil (hQ mu ka act w h hd)
 | i :: l, s, al, s', hr, hc, mu, ka, cst, act, w, h, hd, hQ => by
   simp only [yzn] at hr
   refine .cons ?_
   cases ho : ops[i]? with
   | none => rw [ho] at hr; simp [Tr.run] at hr
   | some o =>
     rw [ho] at hr
     simp only at hr
     have hr1 := Yzv hc hr
     clear hr
     have usual : (((qzx E s.cur ops o).run s.view []).bind fun r => yzn E ec ops l (s.app o.dst r.1) (al.put o r.1.1)).run = some s' →
      OneTo b E.P ops i act w (OpsTo b E.P ops Q l) := by
      intro hr
      obtain ⟨r, h1, h2⟩ := Zu hr
      have hp := Rd.val_of_run h1
      refine jJ hE hfb ho h hp ?_
      intro mu' ka' act' w' hrel hdef
      refine ZJ hE hfb hec l _ _ _ h2 ?_ mu' ka' cst act' w' hrel (hdef.trans hd) hQ
      rw [zzJ]
      exact Coh.put hc fun t ht hb => jQ (.inr hb) ht hp
     cases hg : o.guard with
     | some jw => rw [hg] at hr1; exact usual hr1
     | none =>
       cases hw : QC E s.view o with
       | none => rw [hg, hw] at hr1; exact usual hr1
       | some fa =>
         obtain ⟨f, args⟩ := fa
         rw [hg, hw] at hr1
         simp only at hr1
         obtain ⟨vs, h1, hr2⟩ := Zu hr1
         obtain ⟨r, h2, h3⟩ := Zu hr2
         have : Region.wanted o (yielded ops act.tmps) = true := by simp [Region.wanted, hg]
         refine zd ?_
         unfold wpOp
         rw [ho]
         simp only
         rw [this, if_pos rfl]
         refine .inl (Jzv hE hec h hw (Rd.val_of_run h1) h2 ?_)
         intro mu' ka' act' w' hrel hdef
         exact ZJ hE hfb hec l _ _ _ h3 Coh.nil mu' ka' cst act' w' hrel (hdef.trans hd) hQ
end
theorem yd (i : Nat) (m' : List (Nat × Ob)) : ∀ m : List (Nat × Ob), Zz i (m ++ m') = (Zz i m).or (Zz i m')
 | [] => rfl
 | (j, o) :: m => by
   by_cases e : j = i
   · simp [Zz, e]
   · simp only [List.cons_append, Zz, if_neg e]
     exact yd i m' m
theorem qze {α : Type} {v : View} : ∀ {t : Tr α} {a : α}, (Tr.rd t).val v = some a → t.run = some a
 | .ret b, a, h => h
 | .test b x y, a, h => by
   simp only [Tr.rd, Rd.val] at h
   simp only [Tr.run]
   cases b
   · exact qze (t := y) h
   · exact qze (t := x) h
 | .wait .., a, h => by cases h
 | .fail, a, h => by cases h
theorem zzu {α : Type} {v : View} {k : Rd α} {a : α} : ∀ {m : List (Nat × Ob)}, (jN m k).val v = some a → k.val v = some a ∧ ∀ x ∈ m, v.fresh x.1 = true
 | [], h => ⟨h, fun x hx => by cases hx⟩
 | y :: m, h => by
   simp only [jN, Rd.val] at h
   obtain ⟨h1, h2⟩ := Qy h
   obtain ⟨h3, h4⟩ := zzu h2
   refine ⟨h3, fun x hx => ?_⟩
   rcases List.mem_cons.1 hx with rfl | hx
   · exact h1
   · exact h4 x hx
theorem yzJ : ∀ (q m : List (Nat × Ob)), Qs m (q.reverse.map Qyk) = q ++ m
 | [], m => rfl
 | x :: q, m => by
   rw [List.reverse_cons, List.map_append, jp, yzJ q m]
   rfl
section
variable {P : Program} {X : Out} {s : St} {mu : Nat → Option Nat} {ka : Nat → Nat} {cst : List (List Value)} {act : Act} {a : List Value} {w : World} {E : Env} {fr : Nat} {o : Oper} {p : AV × List Eff} {K : Act → World → Prop} {Q : Exit → Act → World → Prop} {ops : Array Oper}
theorem Rel.merge (h : Rel P X s mu ka cst a w) {w' : World} (hb : Below w.heap.size w w') {X2 : Out} {t : St} {mu2 : Nat → Option Nat} {ka2 : Nat → Nat} {b : List Value} (hX : X2.S0 = Smut P X.S0 s.mem mu) (hB : X2.B = w.heap.size) (h2 : Rel P X2 t mu2 ka2 [] b w')
 (hd : ∀ i ob, Zz i t.mem = some ob → Zz i s.mem = none) :
 ∃ mu' ka', (cx P X2 t.mem mu2 ka2 w').Le (cx P X (t.mem ++ s.mem) mu' ka' w') ∧ Rel P X { s with mem := t.mem ++ s.mem } mu' ka' cst a w' := by
 have hlt : ∀ i b ob', mu i = some b → Zz i s.mem = some ob' → live ob' → b < w.heap.size := fun i b ob' h1 h2 h3 => by
  rcases h.obs i ob' h2 with ⟨b', hb', ho'⟩ | ⟨hn, _⟩
  · rw [h1] at hb'; cases hb'; exact zS ho' h3
  · rw [h1] at hn; cases hn
 have f1 : ∀ {i ob}, Zz i t.mem = some ob → Zz i (t.mem ++ s.mem) = some ob := fun {i ob} q => by rw [yd, q]; rfl
 have f2 : ∀ {i ob}, Zz i s.mem = some ob → Zz i t.mem = none := fun {i ob} q => by
  cases hq : Zz i t.mem with
  | none => rfl
  | some o' => rw [hd i o' hq] at q; cases q
 have f3 : ∀ {i}, Zz i t.mem = none → Zz i (t.mem ++ s.mem) = Zz i s.mem := fun {i} q => by rw [yd, q]; rfl
 let mu' : Nat → Option Nat := fun i => match Zz i t.mem with | some _ => mu2 i | none => mu i
 let ka' : Nat → Nat := fun i => match Zz i t.mem with | some _ => ka2 i | none => ka i
 have m1 : ∀ {i ob}, Zz i t.mem = some ob → mu' i = mu2 i := fun {i ob} q => by show (match Zz i t.mem with | some _ => mu2 i | none => mu i) = _; rw [q]
 have m2 : ∀ {i}, Zz i t.mem = none → mu' i = mu i := fun {i} q => by show (match Zz i t.mem with | some _ => mu2 i | none => mu i) = _; rw [q]
 have k1 : ∀ {i ob}, Zz i t.mem = some ob → ka' i = ka2 i := fun {i ob} q => by show (match Zz i t.mem with | some _ => ka2 i | none => ka i) = _; rw [q]
 have k2 : ∀ {i}, Zz i t.mem = none → ka' i = ka i := fun {i} q => by show (match Zz i t.mem with | some _ => ka2 i | none => ka i) = _; rw [q]
 have hS : ∀ b1 o, Smut P X.S0 (t.mem ++ s.mem) mu' b1 o → Smut P X.S0 s.mem mu b1 o ∨ ∃ i ob, Zz i t.mem = some ob ∧ mu2 i = some b1 ∧ yV P ob o := by
  rintro b1 o (q | ⟨i, oi, g1, g2, g3⟩)
  · exact .inl (.inl q)
  · cases hq : Zz i t.mem with
    | some o' =>
      rw [f1 hq] at g1
      cases g1
      rw [m1 hq] at g2
      exact .inr ⟨i, _, hq, g2, g3⟩
    | none =>
      rw [f3 hq] at g1
      rw [m2 hq] at g2
      exact .inl (.inr ⟨i, oi, g1, g2, g3⟩)
 have hl1 : (cx P X s.mem mu ka w).Le (cx P X (t.mem ++ s.mem) mu' ka' w') := by
  refine ⟨fun b1 o u hc hs => ⟨(hb.cell (World.block_lt_of_cell? _ _ hc)).trans hc, fun q => ?_⟩, fun i b1 q => ?_, fun i x hx => ?_⟩
  · rcases hS b1 o q with q | ⟨i, ob, _, q, _⟩
    · exact hs q
    · have h1 : b1 < w.heap.size := World.block_lt_of_cell? _ _ hc
      have := (h2.blk i b1 q).1
      omega
  · have q' : mu i = some b1 := q
    obtain ⟨_, ob, hob⟩ := h.blk i b1 q'
    show mu' i = some b1
    rw [m2 (f2 hob)]
    exact q'
  · obtain ⟨mm, tt, zs, hx', rfl⟩ := Yi hx
    have e := f2 hx'
    refine ⟨?_, m2 e, k2 e⟩
    show rtOf _ i = _
    unfold rtOf
    rw [f3 e, hx']
 have hl2 : (cx P X2 t.mem mu2 ka2 w').Le (cx P X (t.mem ++ s.mem) mu' ka' w') := by
  refine ⟨fun b1 o u hc hs => ⟨hc, fun q => hs ?_⟩, fun i b1 q => ?_, fun i x hx => ?_⟩
  · rcases hS b1 o q with q | ⟨i, ob, q1, q2, q3⟩
    · refine .inl ?_
      rw [hX]
      exact q
    · exact .inr ⟨i, ob, q1, q2, q3⟩
  · have q' : mu2 i = some b1 := q
    obtain ⟨_, ob, hob⟩ := h2.blk i b1 q'
    show mu' i = some b1
    rw [m1 hob]
    exact q'
  · obtain ⟨mm, tt, zs, hx', rfl⟩ := Yi hx
    refine ⟨?_, m1 hx', k1 hx'⟩
    show rtOf _ i = _
    unfold rtOf
    rw [f1 hx']
 refine ⟨mu', ka', hl2, h.turn hl1 (h.bel.trans (hb.mono h.size)) ?_ ?_ ?_⟩
 · intro i b1 hi
   cases hq : Zz i t.mem with
   | some ob =>
     rw [m1 hq] at hi
     have := (h2.blk i b1 hi).1
     have := h.size
     exact ⟨by omega, ob, f1 hq⟩
   | none =>
     rw [m2 hq] at hi
     obtain ⟨g1, ob, g2⟩ := h.blk i b1 hi
     exact ⟨g1, ob, by rw [f3 hq]; exact g2⟩
 · intro i j b1 oi oj hi hj fi fj li lj
   cases hq : Zz i t.mem with
   | some ob =>
     rw [m1 hq] at hi
     rw [f1 hq] at fi
     cases fi
     have hi1 := (h2.blk i b1 hi).1
     cases hr : Zz j t.mem with
     | some ob' =>
       rw [m1 hr] at hj
       rw [f1 hr] at fj
       cases fj
       exact h2.inj i j b1 _ _ hi hj hq hr li lj
     | none =>
       rw [m2 hr] at hj
       rw [f3 hr] at fj
       have := hlt j b1 oj hj fj lj
       omega
   | none =>
     rw [m2 hq] at hi
     rw [f3 hq] at fi
     cases hr : Zz j t.mem with
     | some ob' =>
       rw [m1 hr] at hj
       have := (h2.blk j b1 hj).1
       have := hlt i b1 oi hi fi li
       omega
     | none =>
       rw [m2 hr] at hj
       rw [f3 hr] at fj
       exact h.inj i j b1 oi oj hi hj fi fj li lj
 · intro i ob hi
   cases hq : Zz i t.mem with
   | some ob' =>
     rw [f1 hq] at hi
     cases hi
     rw [m1 hq, k1 hq]
     rcases h2.obs i _ hq with ⟨b1, hb1, ho⟩ | q
     · exact .inl ⟨b1, hb1, ho.le hl2 fun _ => rfl⟩
     · exact .inr q
   | none =>
     rw [f3 hq] at hi
     rw [m2 hq, k2 hq]
     rcases h.obs i ob hi with ⟨b1, hb1, ho⟩ | q
     · exact .inl ⟨b1, hb1, ho.le hl1 fun hlo => hb.block b1 (hlt i b1 ob hb1 hi hlo)⟩
     · exact .inr q
theorem Qyb {P : Program} {c c' : Cx} (hw : c'.w = c.w) (hS : c'.S = c.S) {a : AV} {u : Value} (hs : calm a = true) (h : VA P c a u) : VA P c' a u := by
 unfold calm at hs
 split at hs
 · simp only [VA] at h ⊢
   rw [hw, hS]
   exact h
 · simp only [VA, VAs] at h ⊢
   rw [hw, hS]
   exact h
 · cases hs
theorem jze {P : Program} {c c' : Cx} (hw : c'.w = c.w) (hS : c'.S = c.S) : ∀ {l : List AV} {us : List Value}, l.all calm = true → VAs P c l us → VAs P c' l us
 | [], us, _, h => by simpa only [VAs] using h
 | a :: l, us, hs, h => by
   simp only [List.all_cons, Bool.and_eq_true] at hs
   simp only [VAs] at h ⊢
   obtain ⟨u, vs, h1, h2, h3⟩ := h
   exact ⟨u, vs, h1, Qyb hw hS hs.1 h2, jze hw hS hs.2 h3⟩
theorem yzu {P : Program} {c : Cx} : ∀ {as bs : List AV} {us : List Value}, VAs P c (as ++ bs) us → ∃ u1 u2, us = u1 ++ u2 ∧ VAs P c as u1 ∧ VAs P c bs u2
 | [], bs, us, h => ⟨[], us, rfl, by simp only [VAs], h⟩
 | a :: as, bs, us, h => by
   simp only [List.cons_append, VAs] at h
   obtain ⟨u, vs, h1, h2, h3⟩ := h
   obtain ⟨u1, u2, h4, h5, h6⟩ := yzu h3
   refine ⟨u :: u1, u2, by rw [h1, h4]; rfl, ?_, h6⟩
   simp only [VAs]
   exact ⟨u, u1, rfl, h2, h5⟩
theorem Zze {S : Nat → Nat → Prop} (hS : ∀ b o, S b o → b < w.heap.size) {ps : List AV} {vs : List Value} (hv : ∀ c : Cx, c.w = w → c.S = S → VAs P c ps vs) (n cur ctr f : Nat) :
 Rel P ⟨w.heap.size, w, S, hS, Nat.le_refl _⟩ { tmps := ps ++ List.replicate (n - ps.length) (.tup []), stack := [], mem := [], cur := cur, ctr := ctr, fn := f } (fun _ => none) (fun _ => 0) [] (vs ++ List.replicate (n - vs.length) undef) w := by
 have hS0 : Smut P S [] (fun _ => none) = S := by
  funext b o
  apply propext
  refine ⟨fun q => ?_, .inl⟩
  rcases q with q | ⟨id, ob, g, _⟩
  · exact q
  · cases g
 refine ⟨Below.refl _ _, (fun id b q => by cases q), (fun i j b oi oj q => by cases q), (fun id ob q => by cases q), ?_, rfl, (fun i x vs q => by cases q)⟩
 have hv0 := hv (cx P ⟨w.heap.size, w, S, hS, Nat.le_refl _⟩ [] (fun _ => none) (fun _ => 0) w) rfl hS0
 refine VAs.append hv0 ?_
 rw [hv0.length]
 generalize n - ps.length = k
 refine VAs.of_get (by simp) fun i x v h1 h2 => ?_
 rw [List.getElem?_replicate] at h1 h2
 split at h1
 · simp_all
   subst h1
   subst h2
   exact JV
 · cases h1
theorem qzJ {P : Program} {c : Cx} {ps : List PV} {vs : List Value} (hv : VPs P c.w c.S ps vs) : VAs P c (ps.map Qg) vs := by
 refine VAs.of_get (by simp [hv.length]) fun i x u h3 h4 => ?_
 rw [List.getElem?_map] at h3
 obtain ⟨p, hp, rfl⟩ := Option.map_eq_some_iff.1 h3
 obtain ⟨u', h5, h6⟩ := hv.get hp
 rw [h4] at h5
 cases h5
 exact QB h6
theorem jzJ {S : Nat → Nat → Prop} (hS : ∀ b o, S b o → b < w.heap.size) {ps : List PV} {vs : List Value} (hv : VPs P w S ps vs) (n cur ctr f : Nat) :
 Rel P ⟨w.heap.size, w, S, hS, Nat.le_refl _⟩ { tmps := ps.map Qg ++ List.replicate (n - ps.length) (.tup []), stack := [], mem := [], cur := cur, ctr := ctr, fn := f } (fun _ => none) (fun _ => 0) [] (vs ++ List.replicate (n - vs.length) undef) w := by
 have := Zze (P := P) hS (ps := ps.map Qg) (vs := vs) (fun c hw hs => qzJ (by rw [hw, hs]; exact hv)) n cur ctr f
 rwa [List.length_map] at this
theorem qd (hE : E.Ok) {ec : Code → St → Tr (Ex × St)} (hec : YX E ec) (h : Rel E.P X s mu ka cst act.tmps.toList w) {cl : Call} {f ctr : Nat} {vs last : List AV} (ho : o.op = .call cl) {fo : Operand} (hc : cl.callee = .value fo)
 {first cap : Array Value} (hfo : act.eval fo = .func (.func f) first cap)
 (hvs : VAs E.P (cx E.P X s.mem mu ka w) (vs ++ last) (first ++ cl.args.map act.eval ++ cap).toList) (hp : (zL E ec ctr f vs last).val s.view = some p) (hK : Next E.P X (s.app o.dst p) cst act K) : o.wp E.P act w K Q := by
 unfold zL at hp
 split at hp
 · rename_i fn hfn
   split at hp
   · rename_i c hb
     obtain ⟨hst0, hp⟩ := Qy hp
     obtain ⟨ps, h1, hp1⟩ := val_bind hp
     obtain ⟨q, h2, hp2⟩ := val_bind hp1
     clear hp hp1
     have hrun := qze h2
     unfold Yyk at hrun
     obtain ⟨r, h3, h4⟩ := Zu hrun
     clear hrun h2
     obtain ⟨u1, u2, hus, hv1, hv2⟩ := yzu hvs
     obtain ⟨g1, g2⟩ := Zj (s := s) (m0 := s.mem) rfl h (Dem.refl _) h1 hv1
     have hv3 := VAs.le g1.le _ _ hv2
     have hS : ∀ b o, Smut E.P X.S0 (Qs s.mem ps.2) mu b o → b < w.heap.size := fun b o q => g1.rel.mut_lt q
     unfold Oper.wp
     rw [jY hE ho hc hfo hfn (by rw [hb]; rfl), Oper.upon_enter]
     refine Qi hfn hb ?_
     have hst := Zze (P := E.P) hS (ps := ps.1.map Qg ++ last) (vs := u1 ++ u2) (fun c hw hs => VAs.append (qzJ (by rw [hw, hs]; exact g2)) (jze (c := cx E.P X (Qs s.mem ps.2) mu ka w) hw hs hst0 hv3)) fn.ntmps ctr (ctr + 1) f
     refine hec (ql f) (E.fits_frame f) c _ r.1 r.2 (show _ = some (r.1, r.2) from h3) ⟨w.heap.size, w, Smut E.P X.S0 (Qs s.mem ps.2) mu, hS, Nat.le_refl _⟩ (fun _ => none) (fun _ => 0) [] _ w ?_ rfl _ ?_
     · rw [← hus] at hst
       simpa using hst
     · intro mu2 ka2 act' w' hrel hd
       have fin : ((jr E fn r.2).bind fun v => Tr.ret (v, r.2.mem)).run = some q → ∃ v, (results fn act'.tmps).run E.P w' = .ok v w' ∧ K (act.put o.dst v) w' := by
        intro h4
        obtain ⟨v, h5, h6⟩ := Zu h4
        simp only [Tr.run, Option.some.injEq] at h6
        subst h6
        obtain ⟨u, h7, h8⟩ := zn hrel h5
        refine ⟨u, h7, ?_⟩
        split at hp2
        · rename_i v' hfz
          simp only [Rd.val, Option.some.injEq] at hp2
          subst hp2
          unfold frz at hfz
          split at hfz
          · rename_i g i j n hq1 hq2
            split at hfz
            · rename_i hij hk
              cases hfz
              have hij : i = j := by simpa using hij
              subst hij
              have hq1 : v = .fn (.func g) [] [.ptr i 0] := hq1
              have hq2 : r.2.mem = [(i, .box [.pv (.int .i64 n)])] := hq2
              subst hq1
              have hob : Zz i r.2.mem = some (.box [.pv (.int .i64 n)]) := by
               have e : r.2.mem = [(i, .box [.pv (.int .i64 n)])] := hq2
               rw [e]
               simp [Zz]
              clear hq2
              simp only [VA, VAs] at h8
              obtain ⟨as, bs, rfl, rfl, u', us', rfl, ⟨b, hm, rfl⟩, rfl⟩ := h8
              have hm' : mu2 i = some b := hm
              obtain ⟨n1, n2⟩ := g1.rel.grow hrel.bel
              refine hK mu ka (act.put o.dst _) w' ?_ (by cases o.dst <;> rfl)
              rw [Jt, Ql]
              refine n2.put o.dst ?_
              have hB : w.heap.size ≤ b := (hrel.blk i b hm').1
              rcases hrel.obs i _ hob with ⟨b', hb', T, wv, hg, hwv⟩ | ⟨z, _⟩
              case inr => rw [hm'] at z; cases z
              rw [hm'] at hb'
              cases hb'
              have hg' : w'.heap[b]? = some (.cells wv T (0, 0)) := hg
              simp only [VAs, VA, VP] at hwv
              obtain ⟨w1, w2, hw1, rfl, rfl⟩ := hwv
              simp only [VA, VAs]
              refine ⟨[], _, rfl, rfl, _, [], rfl, ⟨b, 0, [.int .i64 n], ?_, by simp, ?_, ?_, by simp⟩, rfl⟩
              · intro e he
                rw [List.mem_singleton.1 he, hk]
                exact ⟨⟨n, rfl⟩, trivial⟩
              · refine .inr ⟨b, 0, rfl, fun j u hj => ?_, fun j hj z => ?_⟩
                · show w'.cell? _ = _
                  rw [cell_of_row w' b (0 + j) wv T (0, 0) hg']
                  rw [← Array.getElem?_toList, hw1]
                  simpa using hj
                · have := hS _ _ z
                  omega
              · simp only [VPss, VPs, VP]
                exact ⟨_, [], by simp, ⟨_, _, rfl, rfl, rfl⟩, rfl⟩
            · cases hfz
          · cases hfz
        · obtain ⟨hp3, hfr⟩ := zzu hp2
          simp only [Rd.val, Option.some.injEq] at hp3
          subst hp3
          have hdis : ∀ i ob, Zz i r.2.mem = some ob → Zz i (Qs s.mem ps.2) = none := by
           intro i ob hi
           obtain ⟨x, hx, rfl⟩ := jS hi
           have hf0 := yl (s := s) rfl (hfr x hx)
           rcases g1.dem x.1 with q | ⟨t', xs', q, _⟩
           · rw [q]; exact hf0
           · rw [hf0] at q; cases q
          obtain ⟨mu', ka', k1, k2⟩ := g1.rel.merge (t := r.2) hrel.bel rfl rfl hrel hdis
          refine hK mu' ka' (act.put o.dst u) w' ?_ (by cases o.dst <;> rfl)
          rw [Jt, Ql, jp, yzJ]
          exact k2.put o.dst (VA.le k1 _ _ h8)
       cases hq : r.1 <;> rw [hq] at h4 <;> simp only at h4
       · exact ⟨hd, fin h4⟩
       · simp [Tr.run] at h4
       · simp [Tr.run] at h4
       · exact ⟨hd, fin h4⟩
   · simp [Rd.val] at hp
 · simp [Rd.val] at hp
theorem ZQ {P : Program} {w : World} {S S' : Nat → Nat → Prop} (h : ∀ b o, S' b o → S b o) {ps : List PV} {us : List Value} (hv : VPs P w S ps us) : VPs P w S' ps us :=
 VPs.keep (fun b o u hc hs => ⟨hc, fun q => hs (h b o q)⟩) ps us hv
theorem qzu (hE : E.Ok) {ec : Code → St → Tr (Ex × St)} (hec : YX E ec) (h : Rel E.P X s mu ka cst act.tmps.toList w) {cl : Call} {f ctr id : Nat} {vs : List AV} (ho : o.op = .call cl) (hc : cl.callee = .value (.func f))
 (hvs : VAs E.P (cx E.P X s.mem mu ka w) (.ptr id 0 :: vs) (cl.args.map act.eval).toList) (hp : (zzM E ec ctr f id vs).val s.view = some p) (hK : Next E.P X (s.app o.dst p) cst act K) : o.wp E.P act w K Q := by
 unfold zzM at hp
 split at hp
 · rename_i fn hfn
   split at hp
   · rename_i c tp ts hb hts
     split at hp
     · rename_i t hut
       simp only [Rd.val] at hp
       split at hp
       · rename_i cs hcs
         obtain ⟨q, h1, hp1⟩ := val_bind hp
         obtain ⟨hq0, hp2⟩ := Qy hp1
         obtain ⟨ps, h2, hp3⟩ := val_bind hp2
         obtain ⟨hps0, hp4⟩ := Qy hp3
         obtain ⟨v, h3, hp5⟩ := val_bind hp4
         clear hp hp1 hp2 hp3 hp4
         have hrun := qze h3
         obtain ⟨r, h4, h5⟩ := Zu hrun
         clear hrun h3
         have hq0 : q.2 = [] := List.isEmpty_iff.1 hq0
         have hps0 : ps.2 = [] := List.isEmpty_iff.1 hps0
         unfold View.rng at hcs
         split at hcs
         · rename_i cells hf
           split at hcs
           · rename_i hfit
             cases hcs
             have hf' : Zz id s.mem = some (.box cells) := hf
             simp only [VAs] at hvs
             obtain ⟨u0, us, hus, hv0, hvs⟩ := hvs
             simp only [VA] at hv0
             obtain ⟨b, hm, rfl⟩ := hv0
             have hm' : mu id = some b := hm
             rcases h.obs id _ hf' with ⟨b', hb', T, wv, hg, hwv⟩ | ⟨z, _⟩
             case inr => rw [hm'] at z; cases z
             rw [hm'] at hb'
             cases hb'
             have hg' : w.heap[b]? = some (.cells wv T (0, 0)) := hg
             have hsub := (hwv.drop 0).take (jy E.P t).length
             obtain ⟨g1, g2, g3⟩ := qY (s := s) (m0 := s.mem) rfl h (Dem.refl _) h1 hsub
             obtain ⟨a1, a2⟩ := Zj (s := s) (m0 := s.mem) rfl h (Dem.refl _) h2 hvs
             rw [hq0] at g2
             rw [hps0] at a2
             let S' : Nat → Nat → Prop := fun c o => Smut E.P X.S0 s.mem mu c o ∧ c ≠ b
             have hS' : ∀ c o, S' c o → c < w.heap.size := fun c o z => h.mut_lt z.1
             have hle : ∀ c o, S' c o → Smut E.P X.S0 s.mem mu c o := fun c o z => z.1
             have hS0 : Smut E.P S' [] (fun _ => none) = S' := by
              funext c o
              apply propext
              refine ⟨fun q => ?_, .inl⟩
              rcases q with q | ⟨id, ob, g, _⟩
              · exact q
              · cases g
             have hlies : Lies w S' (some ⟨b, 0, none⟩) ((wv.toList.drop 0).take (jy E.P t).length) := by
              refine .inr ⟨b, 0, rfl, fun j u hj => ?_, fun j hj z => z.2 rfl⟩
              rw [List.getElem?_take] at hj
              split at hj
              · rw [cell_of_row w b (0 + j) wv T (0, 0) hg']
                simpa using hj
              · cases hj
             unfold Oper.wp
             rw [jY hE ho hc (by rfl : act.eval (.func f) = .func (.func f) #[] #[]) hfn (by rw [hb]; rfl), Oper.upon_enter]
             refine Qi hfn hb ?_
             refine hec (ql f) (E.fits_frame f) c _ r.1 r.2 (show _ = some (r.1, r.2) from h4) ⟨w.heap.size, w, S', hS', Nat.le_refl _⟩ (fun _ => none) (fun _ => 0) [] _ w ?_ rfl _ ?_
             · have hst := jzJ (P := E.P) (w := w) hS' (ZQ hle a2) (fn.ntmps - 1) ctr (ctr + 1) f
               have hargs : (#[] ++ cl.args.map act.eval ++ #[] : Array Value).toList = .pointer (some ⟨b, 0, none⟩) :: us := by simpa using hus
               refine ⟨hst.bel, hst.blk, hst.inj, hst.obs, ?_, hst.stk⟩
               have hl : ((#[] ++ cl.args.map act.eval ++ #[] : Array Value) ++ Array.replicate (fn.ntmps - (#[] ++ cl.args.map act.eval ++ #[] : Array Value).size) undef).toList = .pointer (some ⟨b, 0, none⟩) :: (us ++ List.replicate (fn.ntmps - 1 - us.length) undef) := by
                rw [Array.toList_append, hargs, ← Array.length_toList, hargs]
                simp [Nat.sub_sub, Nat.add_comm]
               show VAs E.P _ (.ept t [q.1] 0 0 :: ps.1.map Qg ++ List.replicate (fn.ntmps - (ps.1.length + 1)) (.tup [])) _
               rw [hl, show fn.ntmps - (ps.1.length + 1) = fn.ntmps - 1 - ps.1.length by omega]
               show VAs E.P _ (.ept t [q.1] 0 0 :: (ps.1.map Qg ++ List.replicate (fn.ntmps - 1 - ps.1.length) (.tup []))) _
               simp only [VAs]
               refine ⟨_, _, rfl, ?_, hst.tms⟩
               simp only [VA]
               refine ⟨b, 0, (wv.toList.drop 0).take (jy E.P t).length, ?_, by simp, ?_, ?_, by simp⟩
               · intro e he
                 rw [List.mem_singleton.1 he]
                 exact g3
               · show Lies w (Smut E.P S' [] (fun _ => none)) _ _
                 rw [hS0]
                 exact hlies
               · show VPss E.P w (Smut E.P S' [] (fun _ => none)) _ _
                 rw [hS0]
                 simp only [VPss]
                 exact ⟨_, [], by simp, ZQ hle g2, rfl⟩
             · intro mu2 ka2 act' w' hrel hd
               have fin : (jr E fn r.2).run = some v → ∃ u, (results fn act'.tmps).run E.P w' = .ok u w' ∧ K (act.put o.dst u) w' := by
                intro h6
                obtain ⟨u, h7, h8⟩ := zn hrel h6
                refine ⟨u, h7, ?_⟩
                split at hp5
                · rename_i pv
                  obtain ⟨hsc, hp6⟩ := Qy hp5
                  simp only [Rd.val, Option.some.injEq] at hp6
                  subst hp6
                  obtain ⟨n1, n2⟩ := h.grow hrel.bel
                  refine hK mu ka (act.put o.dst u) w' ?_ (by cases o.dst <;> rfl)
                  rw [Jt, Ql]
                  refine n2.put o.dst ?_
                  have h9 := Jo h8
                  simp only [VA]
                  cases pv <;> simp only [jyP, Bool.false_eq_true] at hsc <;> simp only [VP] at h9 ⊢ <;> exact h9
                · simp [Rd.val] at hp5
               cases hq : r.1 <;> rw [hq] at h5 <;> simp only at h5
               · exact ⟨hd, fin h5⟩
               · simp [Tr.run] at h5
               · simp [Tr.run] at h5
               · exact ⟨hd, fin h5⟩
           · cases hcs
         · cases hcs
       · simp [Rd.val] at hp
     · simp [Rd.val] at hp
   · simp [Rd.val] at hp
 · simp [Rd.val] at hp
theorem jzu (hE : E.Ok) {ec : Code → St → Tr (Ex × St)} (hec : YX E ec) (h : Rel E.P X s mu ka cst act.tmps.toList w) {cl : Call} {f ctr : Nat} {vs : List AV} (ho : o.op = .call cl) (hc : cl.callee = .value (.func f))
 (hvs : VAs E.P (cx E.P X s.mem mu ka w) vs (cl.args.map act.eval).toList) (hp : (yzM E ec ctr f vs).val s.view = some p) (hK : Next E.P X (s.app o.dst p) cst act K) : o.wp E.P act w K Q := by
 unfold yzM at hp
 split at hp
 · exact qzu hE hec h ho hc hvs hp hK
 · split at hp
   · rename_i g t xs i off r hr
     refine qd hE hec h ho hc (by rfl : act.eval (.func f) = .func (.func f) #[] #[]) ?_ hp hK
     have e : vs = r.reverse ++ [.fn (.func g) [] [.ept t xs i off]] := by
      have := congrArg List.reverse hr
      simpa using this
     rw [← e]
     simpa using hvs
   · refine qd hE hec h ho hc (by rfl : act.eval (.func f) = .func (.func f) #[] #[]) ?_ hp hK
     simpa using hvs
theorem QA {c : Call} {g : Nat} (h : qzM E o = some (c, g)) : o.guard = none ∧ o.op = .call c ∧ c.callee = .value (.func g) := by
 unfold qzM at h
 split at h
 · rename_i cl hg ho
   split at h
   · rename_i g' hc
     split at h
     · cases h
       exact ⟨hg, ho, hc⟩
     · cases h
   · cases h
 · cases h
theorem ZzJ (hE : E.Ok) {b : Frame} (hfb : E.fits b) {i : Nat} (ho' : ops[i]? = some o) {ec : Code → St → Tr (Ex × St)} (hec : YX E ec) {ctr : Nat} (h : Rel E.P X s mu ka cst act.tmps.toList w) (hp : (jzx E ec fr ctr ops o).val s.view = some p) (hK : Next E.P X (s.app o.dst p) cst act K) :
 OneTo b E.P ops i act w K := by
 unfold jzx at hp
 split at hp
 · rename_i c g hi
   obtain ⟨hg, ho, hc⟩ := QA hi
   have : Region.wanted o (yielded ops act.tmps) = true := by simp [Region.wanted, hg]
   refine zd ?_
   unfold wpOp
   rw [ho']
   simp only
   rw [this, if_pos rfl]
   obtain ⟨vs, h1, hp1⟩ := val_bind hp
   have hvs := h.opsL h1
   rw [← Array.toList_map] at hvs
   exact .inl (jzu hE hec h ho hc hvs hp1 hK)
 · split at hp
   · rename_i c t hcl
     simp only [Rd.val] at hp
     split at hp
     · rename_i g t1 xs i1 off hv
       have hgo : o.guard = none ∧ o.op = .call c ∧ c.callee = .value (.tmp t) := by
        unfold yyy at hcl
        split at hcl
        · rename_i cl hg ho
          split at hcl
          · rename_i t' hc
            cases hcl
            exact ⟨hg, ho, hc⟩
          · cases hcl
        · cases hcl
       obtain ⟨hg, ho, hc⟩ := hgo
       have : Region.wanted o (yielded ops act.tmps) = true := by simp [Region.wanted, hg]
       refine zd ?_
       unfold wpOp
       rw [ho']
       simp only
       rw [this, if_pos rfl]
       obtain ⟨vs, h1, hp1⟩ := val_bind hp
       have hvs := h.opsL h1
       rw [← Array.toList_map] at hvs
       have hf0 : VA E.P (cx E.P X s.mem mu ka w) (s.view.tmp t) (act.eval (.tmp t)) := h.op (x := .tmp t) rfl
       rw [hv] at hf0
       simp only [VA] at hf0
       obtain ⟨as, bs, hf1, has, hbs⟩ := hf0
       have has : as = [] := by simpa only [VAs] using has
       subst has
       refine .inl (qd hE hec h ho hc hf1 ?_ hp1 hK)
       have := VAs.append hvs hbs
       simpa using this
     · exact jJ hE hfb ho' h hp hK
   · exact jJ hE hfb ho' h hp hK
theorem Zzu {ec : Code → St → Tr (Ex × St)} {ctr : Nat} (hg : o.guard = none ∨ (∃ b, p.1 = .pv (.bool b))) {t : Nat} (ho : o.op = .move (.tmp t)) (hp : (jzx E ec fr ctr ops o).val s.view = some p) : p.1 = s.tmps.getD t (.pv .undef) := by
 unfold jzx at hp
 split at hp
 · rename_i c g hi
   obtain ⟨_, ho', _⟩ := QA hi
   rw [ho] at ho'
   cases ho'
 · split at hp
   · rename_i c t' hcl
     unfold yyy at hcl
     rw [ho] at hcl
     split at hcl
     · rename_i cl hg' ho'
       cases ho'
     · cases hcl
   · exact jQ hg ho hp
theorem jyx (h : Rel P X s mu ka cst a w) : Rel P X (bump E ops s) mu ka cst a w := by
 unfold bump
 split
 · exact ⟨h.bel, h.blk, h.inj, h.obs, h.tms, h.stk⟩
 · exact h
end
end Go.Proofs.YtgfnpgnfklcicaaGreatS
