/- Part 2 of what the proof of TopBackends leans on. Conditions: none. -/
import Derived.Test.YtgfnpgnfklcicaaGreatT1
import Derived.KernelRfl
import Derived.SizedLaws
import Derived.Deep.Slices
import Derived.ChangeArms
import Derived.WideShapes
import Derived.Carry
import Derived.MapKept
set_option linter.unusedSimpArgs false
set_option linter.unusedVariables false
namespace Go.Proofs.YtgfnpgnfklcicaaGreatS
open Go Go.RowKit
theorem zU {e : Eff} {m : List (Nat × Ob)} {j : Nat} (h : e.obj ≠ j) : Zz j (e.on m) = Zz j m := by
 cases e with
 | new id o => simp only [Eff.on, Yy]; exact if_neg h
 | put id off vs =>
   simp only [Eff.on]
   split
   · exact zy id j _ (Ne.symm h) m
   · rfl
 | rset id md t xs => exact zy id j _ (Ne.symm h) m
 | cset id q =>
   simp only [Eff.on]
   split
   · exact zy id j _ (Ne.symm h) m
   · rfl
theorem zW {id j : Nat} {o : Ob} {m m' : List (Nat × Ob)} (h : Zz id m = Zz id m') (hj : Zz j m = Zz j m') : Zz j (Yt id o m) = Zz j (Yt id o m') := by
 by_cases e : j = id
 · subst e
   cases hf : Zz j m with
   | some p => rw [Jy j o m hf, Jy j o m' (by rw [← h]; exact hf)]
   | none =>
     have none_ : ∀ (l : List (Nat × Ob)), Zz j l = none → Zz j (Yt j o l) = none := by
      intro l
      induction l with
      | nil => intro _; rfl
      | cons x l ih =>
        obtain ⟨k, q⟩ := x
        intro hq
        by_cases e : k = j
        · simp [Zz, e] at hq
        · simp only [Zz, if_neg e] at hq
          simp only [Yt, if_neg e, Zz]
          exact ih hq
     rw [none_ m hf, none_ m' (by rw [← h]; exact hf)]
 · rw [zy id j o e m, zy id j o e m']
   exact hj
theorem J7 {e : Eff} {m m' : List (Nat × Ob)} {j : Nat} (h : Zz e.obj m = Zz e.obj m') (hj : Zz j m = Zz j m') : Zz j (e.on m) = Zz j (e.on m') := by
 cases e with
 | new id o => simp only [Eff.on, Yy, hj]
 | put id off vs =>
   have h' : Zz id m = Zz id m' := h
   simp only [Eff.on]
   rw [← h']
   split
   · exact zW h' hj
   · exact hj
 | rset id md t xs => exact zW h hj
 | cset id q =>
   have h' : Zz id m = Zz id m' := h
   simp only [Eff.on]
   rw [← h']
   split
   · exact zW h' hj
   · exact hj
theorem Zm {j : Nat} : ∀ {es : List Eff} {m : List (Nat × Ob)}, (∀ e ∈ es, e.obj ≠ j) → Zz j (Qs m es) = Zz j m
 | [], _, _ => rfl
 | e :: es, m, h => by
   show Zz j (Qs (e.on m) es) = _
   rw [Zm fun x hx => h x (by simp [hx]), zU (h e (by simp))]
theorem qf {j : Nat} : ∀ {es : List Eff} {m m' : List (Nat × Ob)}, (∀ e ∈ es, Zz e.obj m = Zz e.obj m') → Zz j m = Zz j m' → Zz j (Qs m es) = Zz j (Qs m' es)
 | [], _, _, _, hj => hj
 | e :: es, m, m', h, hj => by
   show Zz j (Qs (e.on m) es) = Zz j (Qs (e.on m') es)
   exact qf (fun x hx => J7 (h e (by simp)) (h x (by simp [hx]))) (J7 (h e (by simp)) hj)
theorem jzV {e : Eff} {m m' : List (Nat × Ob)} (h : Zz e.obj m = Zz e.obj m') : e.fits m = e.fits m' := by
 cases e with
 | new id o => rfl
 | put id off vs => simp only [Eff.fits]; rw [show Zz id m = Zz id m' from h]
 | rset id md t xs => simp only [Eff.fits]; rw [show Zz id m = Zz id m' from h]
 | cset id q => simp only [Eff.fits]; rw [show Zz id m = Zz id m' from h]
theorem Qj : ∀ {es : List Eff} {m m' : List (Nat × Ob)}, (∀ e ∈ es, Zz e.obj m = Zz e.obj m') → Zn m es = Zn m' es
 | [], _, _, _ => rfl
 | e :: es, m, m', h => by
   simp only [Zn]
   rw [jzV (h e (by simp)), Qj fun x hx => J7 (h e (by simp)) (h x (by simp [hx]))]
def Key.same (v v' : View) : Key → Prop
 | .t x => v.tmp x = v'.tmp x
 | .c x off len => v.rng x off len = v'.rng x off len
 | .r x => v.row x = v'.row x
 | .n x => v.fresh x = v'.fresh x
 | .h x => v.chn x = v'.chn x
theorem Key.same_trans {a b c : View} {k : Key} (h : k.same a b) (h' : k.same b c) : k.same a c := by
 cases k <;> exact Eq.trans h h'
theorem Key.same_symm {a b : View} {k : Key} (h : k.same a b) : k.same b a := by
 cases k <;> exact Eq.symm h
theorem zm {α : Type} {v : View} {r : α × List Key} : ∀ (x : Rd α) (ks : List Key), (x.run v ks).run = some r → ∀ k ∈ ks, k ∈ r.2
 | .ret a, ks, h, k, hk => by
   simp only [Rd.run, Tr.run, Option.some.injEq] at h
   subst h
   exact hk
 | .tmp t f, ks, h, k, hk => zm (f _) _ h k (by simp [hk])
 | .rng id off n f, ks, h, k, hk => zm (f _) _ h k (by simp [hk])
 | .row id f, ks, h, k, hk => zm (f _) _ h k (by simp [hk])
 | .fresh id f, ks, h, k, hk => zm (f _) _ h k (by simp [hk])
 | .chn id f, ks, h, k, hk => zm (f _) _ h k (by simp [hk])
 | .test b x y, ks, h, k, hk => by
   simp only [Rd.run, Tr.run] at h
   cases b
   · exact zm y ks h k hk
   · exact zm x ks h k hk
 | .fail, ks, h, k, hk => by simp [Rd.run, Tr.run] at h
theorem Jj {α : Type} {v v' : View} {r : α × List Key} : ∀ (x : Rd α) (ks : List Key), (x.run v ks).run = some r → (∀ k ∈ r.2, k.same v v') → (x.run v' ks).run = some r
 | .ret a, ks, h, _ => h
 | .tmp t f, ks, h, hs => by
   have e : v.tmp t = v'.tmp t := hs (.t t) (zm (f _) _ h _ (by simp))
   simp only [Rd.run] at h ⊢
   rw [← e]
   exact Jj _ _ h hs
 | .rng id off n f, ks, h, hs => by
   have e : v.rng id off n = v'.rng id off n := hs (.c id off n) (zm (f _) _ h _ (by simp))
   simp only [Rd.run] at h ⊢
   rw [← e]
   exact Jj _ _ h hs
 | .row id f, ks, h, hs => by
   have e : v.row id = v'.row id := hs (.r id) (zm (f _) _ h _ (by simp))
   simp only [Rd.run] at h ⊢
   rw [← e]
   exact Jj _ _ h hs
 | .fresh id f, ks, h, hs => by
   have e : v.fresh id = v'.fresh id := hs (.n id) (zm (f _) _ h _ (by simp))
   simp only [Rd.run] at h ⊢
   rw [← e]
   exact Jj _ _ h hs
 | .chn id f, ks, h, hs => by
   have e : v.chn id = v'.chn id := hs (.h id) (zm (f _) _ h _ (by simp))
   simp only [Rd.run] at h ⊢
   rw [← e]
   exact Jj _ _ h hs
 | .test b x y, ks, h, hs => by
   simp only [Rd.run, Tr.run] at h ⊢
   cases b
   · exact Jj y ks h hs
   · exact Jj x ks h hs
 | .fail, ks, h, _ => by simp [Rd.run, Tr.run] at h
theorem Yzu {α : Type} {l vs : List α} {off p n : Nat} (hf : off + vs.length ≤ l.length) (h : ¬ (off < p + n ∧ p < off + vs.length)) (hp : p + n ≤ l.length) : ((jx l off vs).drop p).take n = (l.drop p).take n := by
 apply List.ext_getElem?
 intro i
 rw [List.getElem?_take, List.getElem?_take]
 by_cases hi : i < n
 · rw [if_pos hi, if_pos hi, List.getElem?_drop, List.getElem?_drop]
   unfold jx
   by_cases h1 : p + n ≤ off
   · rw [List.append_assoc, List.getElem?_append_left (by rw [List.length_take]; omega), List.getElem?_take, if_pos (by omega)]
   · have h2 : off + vs.length ≤ p := by omega
     rw [List.getElem?_append_right (by rw [List.length_append, List.length_take]; omega), List.getElem?_drop]
     congr 1
     rw [List.length_append, List.length_take]
     omega
 · rw [if_neg hi, if_neg hi]
theorem ZzV {α : Type} {l vs : List α} {off : Nat} (hf : off + vs.length ≤ l.length) : (jx l off vs).length = l.length := by
 unfold jx
 simp only [List.length_append, List.length_take, List.length_drop]
 omega
theorem Jyb {e : Eff} {m : List (Nat × Ob)} {τ : Nat → AV} {r : Key} (hf : e.fits m = true) (hh : e.key.hits r = false) : r.same ⟨τ, fun i => Zz i m⟩ ⟨τ, fun i => Zz i (e.on m)⟩ := by
 by_cases he : ∃ i, r.objOf = some i ∧ e.obj = i
 · obtain ⟨i, h1, h2⟩ := he
   cases e with
   | new id o =>
     obtain rfl : id = i := h2
     cases r <;> simp [Key.objOf] at h1 <;> subst h1 <;> simp [Eff.key, Key.hits] at hh
   | put id off vs =>
     obtain rfl : id = i := h2
     simp only [Eff.fits] at hf
     split at hf
     · rename_i cs hcs
       have hfit := of_decide_eq_true hf
       have hnew : Zz id (Eff.on m (.put id off vs)) = some (.box (jx cs off vs)) := by
        simp only [Eff.on, hcs]
        exact Jy id _ m hcs
       cases r <;> simp [Key.objOf] at h1 <;> subst h1
       · rename_i id' p n
         simp only [Eff.key, Key.hits, beq_self_eq_true, Bool.true_and, Bool.and_eq_false_iff, decide_eq_false_iff_not] at hh
         simp only [Key.same, View.rng, hcs, hnew, ZzV hfit]
         split
         · rename_i hle
           rw [Yzu hfit (by omega) hle]
         · rfl
       · simp only [Key.same, View.row, hcs, hnew]
       · simp only [Key.same, View.fresh, hcs, hnew]
       · simp only [Key.same, View.chn, hcs, hnew]
     · cases hf
   | cset id q =>
     obtain rfl : id = i := h2
     simp only [Eff.fits] at hf
     split at hf
     · rename_i q0 hcs
       have hnew : Zz id (Eff.on m (.cset id q)) = some (.chan q) := by
        simp only [Eff.on, hcs]
        exact Jy id _ m hcs
       cases r <;> simp [Key.objOf] at h1 <;> subst h1
       · simp only [Key.same, View.rng, hcs, hnew]
       · simp only [Key.same, View.row, hcs, hnew]
       · simp only [Key.same, View.fresh, hcs, hnew]
       · simp [Eff.key, Key.hits] at hh
     · cases hf
   | rset id md t xs =>
     obtain rfl : id = i := h2
     simp only [Eff.fits] at hf
     split at hf
     · rename_i a b c hcs
       have hnew : Zz id (Eff.on m (.rset id md t xs)) = some (.row md t xs) := by
        simp only [Eff.on]
        exact Jy id _ m hcs
       cases r <;> simp [Key.objOf] at h1 <;> subst h1
       · simp only [Key.same, View.rng, hcs, hnew]
       · simp [Eff.key, Key.hits] at hh
       · simp only [Key.same, View.fresh, hcs, hnew]
       · simp only [Key.same, View.chn, hcs, hnew]
     · cases hf
 · cases r with
   | t n => rfl
   | c id off n =>
     have : e.obj ≠ id := fun q => he ⟨id, rfl, q⟩
     simp only [Key.same, View.rng, zU this]
   | r id =>
     have : e.obj ≠ id := fun q => he ⟨id, rfl, q⟩
     simp only [Key.same, View.row, zU this]
   | n id =>
     have : e.obj ≠ id := fun q => he ⟨id, rfl, q⟩
     simp only [Key.same, View.fresh, zU this]
   | h id =>
     have : e.obj ≠ id := fun q => he ⟨id, rfl, q⟩
     simp only [Key.same, View.chn, zU this]
theorem YJ {τ : Nat → AV} {r : Key} : ∀ {es : List Eff} {m : List (Nat × Ob)}, Zn m es = true → (∀ e ∈ es, e.key.hits r = false) → r.same ⟨τ, fun i => Zz i m⟩ ⟨τ, fun i => Zz i (Qs m es)⟩
 | [], m, _, _ => by cases r <;> rfl
 | e :: es, m, hf, hh => by
   simp only [Zn, Bool.and_eq_true] at hf
   exact Key.same_trans (Jyb hf.1 (hh e (by simp))) (YJ (es := es) (m := e.on m) hf.2 fun x hx => hh x (by simp [hx]))
theorem YzJ {l : List AV} {d : Nat} {v : AV} {F : Nat → Option Ob} {r : Key} (hh : (Key.t d).hits r = false) : r.same ⟨fun t => l.getD t (.pv .undef), F⟩ ⟨fun t => (l.set d v).getD t (.pv .undef), F⟩ := by
 cases r with
 | t n =>
   have hne : ¬ d = n := by simpa [Key.hits] using hh
   show l.getD n _ = (l.set d v).getD n _
   rw [QV, if_neg (fun e => hne e.1)]
 | c id off n => rfl
 | r id => rfl
 | n id => rfl
 | h id => rfl
theorem Yze {s : St} {dst : Option Nat} {p : AV × List Eff} {r : Key} (hf : Zn s.mem p.2 = true) (hh : ∀ k ∈ JW dst p.2, k.hits r = false) : r.same s.view (s.app dst p).view := by
 have h1 : ∀ e ∈ p.2, e.key.hits r = false := fun e he => hh _ (by
  unfold JW
  cases dst <;> simp
  · exact ⟨e, he, rfl⟩
  · exact .inr ⟨e, he, rfl⟩)
 cases dst with
 | none => exact YJ (τ := fun t => s.tmps.getD t (.pv .undef)) hf h1
 | some d =>
   have h2 : (Key.t d).hits r = false := hh _ (by simp [JW])
   exact Key.same_trans (YJ (τ := fun t => s.tmps.getD t (.pv .undef)) hf h1) (YzJ h2)
structure St.Eqv (s t : St) : Prop where
 tmps : s.tmps = t.tmps
 stack : s.stack = t.stack
 cur : s.cur = t.cur
 ctr : s.ctr = t.ctr
 fn : s.fn = t.fn
 mem : ∀ i, Zz i s.mem = Zz i t.mem
theorem St.Eqv.refl (s : St) : s.Eqv s := ⟨rfl, rfl, rfl, rfl, rfl, fun _ => rfl⟩
theorem St.Eqv.symm {s t : St} (h : s.Eqv t) : t.Eqv s := ⟨h.1.symm, h.2.symm, h.3.symm, h.4.symm, h.5.symm, fun i => (h.6 i).symm⟩
theorem St.Eqv.trans {s t u : St} (h : s.Eqv t) (k : t.Eqv u) : s.Eqv u := ⟨h.1.trans k.1, h.2.trans k.2, h.3.trans k.3, h.4.trans k.4, h.5.trans k.5, fun i => (h.6 i).trans (k.6 i)⟩
theorem St.Eqv.view {s t : St} (h : s.Eqv t) : s.view = t.view := by
 unfold St.view
 rw [h.tmps]
 congr 1
 funext i
 exact h.mem i
theorem St.Eqv.app {s t : St} (h : s.Eqv t) (dst : Option Nat) (p : AV × List Eff) : (s.app dst p).Eqv (t.app dst p) := by
 cases dst with
 | none => exact ⟨h.1, h.2, h.3, h.4, h.5, fun i => qf (fun e _ => h.6 _) (h.6 i)⟩
 | some d => exact ⟨congrArg (·.set d p.1) h.1, h.2, h.3, h.4, h.5, fun i => qf (fun e _ => h.6 _) (h.6 i)⟩
structure Step (E : Env) (ec : Code → St → Tr (Ex × St)) (ops : Array Oper) (s : St) (d : Done) (t : St) : Prop where
 done : ∃ o p, ops[d.i]? = some o ∧ ((jzx E ec s.cur s.ctr ops o).run s.view []).run = some (p, d.reads) ∧ Zn s.mem p.2 = true ∧ d.writes = JW o.dst p.2 ∧ t = s.app o.dst p
inductive Chain (E : Env) (ec : Code → St → Tr (Ex × St)) (ops : Array Oper) : St → List Done → St → Prop
 | nil (s : St) : Chain E ec ops s [] s
 | cons {s t u : St} {d : Done} {l : List Done} (h : Step E ec ops s d t) (k : Chain E ec ops t l u) : Chain E ec ops s (d :: l) u
section
variable {E : Env} {ec : Code → St → Tr (Ex × St)} {ops : Array Oper}
theorem QzJ (s : St) (dst : Option Nat) (p : AV × List Eff) : (s.app dst p).ctr = s.ctr := by cases dst <;> rfl
theorem JzJ (s : St) (dst : Option Nat) (p : AV × List Eff) : (s.app dst p).cur = s.cur := by cases dst <;> rfl
theorem Step.eqv {s t s' : St} {d : Done} (h : Step E ec ops s d t) (k : s.Eqv s') : ∃ t', Step E ec ops s' d t' ∧ t.Eqv t' := by
 obtain ⟨o, p, h1, h2, h3, h4, rfl⟩ := h.done
 refine ⟨s'.app o.dst p, ⟨⟨o, p, h1, ?_, ?_, h4, rfl⟩⟩, k.app _ _⟩
 · rw [← k.view, ← k.cur, ← k.ctr]; exact h2
 · rw [← Qj (m := s.mem) fun e _ => k.mem _]; exact h3
theorem Chain.eqv {s u : St} {l : List Done} (h : Chain E ec ops s l u) : ∀ {s' : St}, s.Eqv s' → ∃ u', Chain E ec ops s' l u' ∧ u.Eqv u' := by
 induction h with
 | nil s => exact fun {s'} k => ⟨s', .nil s', k⟩
 | cons h _ ih =>
   intro s' k
   obtain ⟨t', h1, h2⟩ := h.eqv k
   obtain ⟨u', h3, h4⟩ := ih h2
   exact ⟨u', .cons h1 h3, h4⟩
theorem zzI (e : Eff) : e.key.objOf = some e.obj := by cases e <;> rfl
theorem Qze {dst : Option Nat} {es : List Eff} {e : Eff} (h : e ∈ es) : e.key ∈ JW dst es := by
 cases dst with
 | none => exact List.mem_map_of_mem h
 | some d => exact List.mem_cons_of_mem _ (List.mem_map_of_mem h)
theorem zya {s t u : St} {a b : Done} (ha : Step E ec ops s a t) (hb : Step E ec ops t b u) (hap : b.apart a = true) : ∃ t' u', Step E ec ops s b t' ∧ Step E ec ops t' a u' ∧ u.Eqv u' := by
 obtain ⟨oa, pa, a1, a2, a3, a4, rfl⟩ := ha.done
 obtain ⟨ob, pb, b1, b2, b3, b4, rfl⟩ := hb.done
 unfold Done.apart at hap
 simp only [Bool.and_eq_true, List.all_eq_true, Bool.not_eq_true'] at hap
 obtain ⟨hap1, hap2⟩ := hap
 have hobj : ∀ e ∈ pb.2, ∀ f ∈ pa.2, e.obj ≠ f.obj := by
  intro e he f hf q
  have h1 := (hap1 e.key (by rw [b4]; exact Qze he)).2 f.key (by rw [a4]; exact Qze hf)
  have h2 : (e.key.objOf, f.key.objOf) = (some e.obj, some f.obj) := by rw [zzI, zzI]
  unfold Key.clash at h1
  cases e <;> cases f <;> simp [Eff.key, Key.objOf] at h1 <;> exact h1 q
 rw [JzJ, QzJ] at b2
 have rb : ((jzx E ec s.cur s.ctr ops ob).run s.view []).run = some (pb, b.reads) :=
  Jj _ _ b2 fun k hk => Key.same_symm (Yze a3 fun w hw => hap2 w (by rw [a4]; exact hw) k hk)
 have fb : Zn s.mem pb.2 = true := by
  have : Zn (s.app oa.dst pa).mem pb.2 = Zn s.mem pb.2 := Qj fun e he => Zm (m := s.mem) fun f hf q => hobj e he f hf q.symm
  rw [← this]
  exact b3
 have ra : ((jzx E ec (s.app ob.dst pb).cur (s.app ob.dst pb).ctr ops oa).run (s.app ob.dst pb).view []).run = some (pa, a.reads) := by
  rw [JzJ, QzJ]
  exact Jj _ _ a2 fun k hk => Yze fb fun w hw => (hap1 w (by rw [b4]; exact hw)).1 k hk
 have fa : Zn (s.app ob.dst pb).mem pa.2 = true := by
  have : Zn (s.app ob.dst pb).mem pa.2 = Zn s.mem pa.2 := Qj fun e he => Zm (m := s.mem) fun f hf q => hobj f hf e he q
  rw [this]
  exact a3
 refine ⟨s.app ob.dst pb, (s.app ob.dst pb).app oa.dst pa, ⟨⟨ob, pb, b1, rb, fb, b4, rfl⟩⟩, ⟨⟨oa, pa, a1, ra, fa, a4, rfl⟩⟩, ?_⟩
 have hmem : ∀ i, Zz i (Qs (Qs s.mem pa.2) pb.2) = Zz i (Qs (Qs s.mem pb.2) pa.2) := by
  intro i
  have ea : ∀ e ∈ pb.2, Zz e.obj (Qs s.mem pa.2) = Zz e.obj s.mem := fun e he => Zm fun f hf q => hobj e he f hf q.symm
  have eb : ∀ e ∈ pa.2, Zz e.obj (Qs s.mem pb.2) = Zz e.obj s.mem := fun e he => Zm fun f hf q => hobj f hf e he q
  by_cases hi : ∃ e ∈ pb.2, e.obj = i
  · obtain ⟨e, he, rfl⟩ := hi
    rw [qf (m' := s.mem) ea (ea e he)]
    exact (Zm fun f hf q => hobj e he f hf q.symm).symm
  · rw [Zm fun e he q => hi ⟨e, he, q⟩]
    exact (qf (m' := s.mem) eb (Zm fun e he q => hi ⟨e, he, q⟩)).symm
 have htmps : ∀ da db, oa.dst = some da → ob.dst = some db → db ≠ da := by
  intro da db h1 h2 q
  have := (hap1 (.t db) (by rw [b4, h2]; simp [JW])).2 (.t da) (by rw [a4, h1]; simp [JW])
  simp [Key.clash] at this
  exact this q
 cases hda : oa.dst with
 | none =>
   cases hdb : ob.dst with
   | none => exact ⟨rfl, rfl, rfl, rfl, rfl, hmem⟩
   | some db => exact ⟨rfl, rfl, rfl, rfl, rfl, hmem⟩
 | some da =>
   cases hdb : ob.dst with
   | none => exact ⟨rfl, rfl, rfl, rfl, rfl, hmem⟩
   | some db => exact ⟨List.set_comm _ _ (Ne.symm (htmps da db hda hdb)), rfl, rfl, rfl, rfl, hmem⟩
theorem Chain.pull {d : Done} {l2 : List Done} : ∀ {l1 : List Done} {s u : St}, Chain E ec ops s (l1 ++ d :: l2) u → (∀ e ∈ l1, d.apart e = true) → ∃ t u', Step E ec ops s d t ∧ Chain E ec ops t (l1 ++ l2) u' ∧ u.Eqv u'
 | [], s, u, h, _ => by
   cases h with
   | cons h k => exact ⟨_, u, h, k, .refl u⟩
 | e :: l1, s, u, h, hap => by
   cases h with
   | cons h k =>
     obtain ⟨t, u', h1, h2, h3⟩ := Chain.pull k fun x hx => hap x (by simp [hx])
     obtain ⟨t', w, h4, h5, h6⟩ := zya h h1 (hap e (by simp))
     obtain ⟨u'', h7, h8⟩ := h2.eqv h6
     exact ⟨t', u'', h4, .cons h5 h7, h3.trans h8⟩
end
section
variable {P : Program} {X : Out} {s : St} {mu : Nat → Option Nat} {ka : Nat → Nat} {cst : List (List Value)} {act : Act} {a : List Value} {w : World} {E : Env} {fr : Nat} {o : Oper} {p : AV × List Eff} {K : Act → World → Prop} {Q : Exit → Act → World → Prop} {ops : Array Oper}
theorem QyG {m m' : List (Nat × Ob)} (h : ∀ i, Zz i m = Zz i m') : cx P X m mu ka w = cx P X m' mu ka w := by
 have h1 : Smut P X.S0 m mu = Smut P X.S0 m' mu := by
  funext b o
  simp only [Smut, h]
 have h2 : rtOf m = rtOf m' := by
  funext i
  simp only [rtOf, h]
 unfold cx
 rw [h1, h2]
theorem Rel.eqv (h : Rel P X s mu ka cst a w) {t : St} (k : s.Eqv t) : Rel P X t mu ka cst a w := by
 have e := QyG (P := P) (X := X) (mu := mu) (ka := ka) (w := w) k.mem
 refine ⟨h.bel, ?_, ?_, ?_, ?_, ?_, ?_⟩
 · intro id b hb
   rw [← k.mem]
   exact h.blk id b hb
 · intro i j b oi oj hi hj fi fj
   rw [← k.mem] at fi fj
   exact h.inj i j b oi oj hi hj fi fj
 · intro id ob hf
   rw [← k.mem] at hf
   rw [← e]
   exact h.obs id ob hf
 · rw [← e, ← k.tmps]; exact h.tms
 · rw [← k.stack]; exact h.stk.1
 · rw [← e, ← k.stack]; exact h.stk.2
def Two (ops : Array Oper) (d e : Done) : Prop := ∃ o p, ops[d.i]? = some o ∧ ops[e.i]? = some p ∧ (Oper.waits o e.i = true ∨ Oper.waits p d.i = true ∨ d.apart e = true)
theorem QJ : ∀ {l : List Done}, zY ops l = true → l.Pairwise (Two ops)
 | [], _ => .nil
 | d :: l, h => by
   simp only [zY, Bool.and_eq_true, List.all_eq_true] at h
   refine .cons (fun e he => ?_) (QJ h.2)
   have h1 := h.1 e he
   cases hd : ops[d.i]? with
   | none => rw [hd] at h1; simp at h1
   | some o =>
     cases hp : ops[e.i]? with
     | none => rw [hd, hp] at h1; simp at h1
     | some p =>
       rw [hd, hp] at h1
       simp only [Bool.or_eq_true] at h1
       refine ⟨o, p, hd, hp, ?_⟩
       rcases h1 with (q | q) | q
       · exact .inl q
       · exact .inr (.inl q)
       · exact .inr (.inr q)
theorem JJ {ec : Code → St → Tr (Ex × St)} : ∀ (l : List Nat) (s : St) (al : Al) (ds : List Done) (r : St × List Done), (QT E ec ops l s al ds).run = some r → Coh s.tmps al →
 ∃ c : List Done, Chain E ec ops s c r.1 ∧ r.2 = c.reverse ++ ds ∧ c.map (·.i) = l
 | [], s, al, ds, r, hr, _ => by
   simp only [QT, Tr.run, Option.some.injEq] at hr
   subst hr
   exact ⟨[], .nil s, rfl, rfl⟩
 | i :: l, s, al, ds, r, hr, hc => by
   simp only [QT] at hr
   cases ho : ops[i]? with
   | none => rw [ho] at hr; simp [Tr.run] at hr
   | some o =>
     rw [ho] at hr
     simp only at hr
     have hr1 := Yzv hc hr
     clear hr
     cases hw : jzM E s.view o with
     | false => rw [hw] at hr1; simp [Tr.run] at hr1
     | true =>
       rw [hw] at hr1
       simp only at hr1
       obtain ⟨q, h1, h2⟩ := Zu hr1
       clear hr1
       cases hf : Zn s.mem q.1.2 with
       | false => rw [hf] at h2; simp [Tr.run] at h2
       | true =>
         rw [hf] at h2
         simp only at h2
         have hp := Rd.val_of_run h1
         obtain ⟨c, k1, k2, k3⟩ := JJ l _ _ _ r h2 (by rw [zzJ]; exact Coh.put hc fun t ht hb => Zzu (.inr hb) ht hp)
         refine ⟨⟨i, q.2, JW o.dst q.1.2⟩ :: c, .cons ⟨⟨o, q.1, ho, h1, hf, rfl, rfl⟩⟩ k1, ?_, by rw [List.map_cons, k3]⟩
         rw [k2]
         simp
theorem yzI (hE : E.Ok) {b : Frame} (hfb : E.fits b) {ec : Code → St → Tr (Ex × St)} (hec : YX E ec) (htx : JM ops = true) : ∀ (fuel : Nat) (c : List Done) (s u : St), Chain E ec ops s c u → c.length ≤ fuel → c.Pairwise (fun d e => d.i < e.i) → c.Pairwise (fun e d => Two ops d e) →
 ∀ listed : Array Bool, listed.size = ops.size → (∀ j, j < ops.size → (listed.getD j true = false ↔ ∃ d ∈ c, d.i = j)) →
 ∀ mu ka (act : Act) w, Rel E.P X s mu ka cst act.tmps.toList w → act.defers = [] →
 (∀ mu' ka' (act' : Act) w', Rel E.P X u mu' ka' cst act'.tmps.toList w' → act'.defers = [] → Q .normal act' w') → qyx b E.P .any ops Q fuel listed act w := by
 intro fuel
 have deps : ∀ {i o}, ops[i]? = some o → ∀ e ∈ o.after, Region.binds .any e = true → e.on < i := by
  intro i o ho e he hb
  unfold JM at htx
  rw [List.all_eq_true] at htx
  have := htx i (List.mem_range.2 (Array.getElem?_eq_some_iff.1 ho).1)
  rw [ho] at this
  simp only [Array.all_eq_true_iff_forall_mem, Bool.or_eq_true, Bool.not_eq_true', decide_eq_true_eq] at this
  rcases this e he with q | q
  · rw [hb] at q; cases q
  · exact q
 have getD_of : ∀ {l : Array Bool} {j : Nat}, j < l.size → l.getD j true = true → l.getD j false = true := by
  intro l j hj h
  simpa [hj] using h
 induction fuel with
 | zero =>
   intro c s u hch hlen hs ht listed hsz hiff mu ka act w h hd hQ
   have hc : c = [] := List.length_eq_zero_iff.1 (Nat.le_zero.1 hlen)
   subst hc
   cases hch
   refine ⟨List.eq_nil_iff_forall_not_mem.2 fun j hj => ?_, hQ mu ka act w h hd⟩
   obtain ⟨h1, o, ho, _⟩ := mem_ready.1 hj
   obtain ⟨d, hd', _⟩ := (hiff j (Array.getElem?_eq_some_iff.1 ho).1).1 h1
   cases hd'
 | succ fuel ih =>
   intro c s u hch hlen hs ht listed hsz hiff mu ka act w h hd hQ
   refine ⟨fun hnil => ?_, fun i hi => ?_⟩
   · cases c with
     | nil => cases hch; exact hQ mu ka act w h hd
     | cons d c =>
       exfalso
       cases hch with
       | cons hstep _ =>
         obtain ⟨o, _, ho, _⟩ := hstep.done
         have hlt := (Array.getElem?_eq_some_iff.1 ho).1
         have : d.i ∈ Region.ready .any ops listed := by
          refine mem_ready.2 ⟨(hiff d.i hlt).2 ⟨d, by simp, rfl⟩, o, ho, fun e he hb => ?_⟩
          have hon := deps ho e he hb
          refine getD_of (by omega) ?_
          cases hq : listed.getD e.on true with
          | true => rfl
          | false =>
            obtain ⟨d', h1, h2⟩ := (hiff e.on (by omega)).1 hq
            rcases List.mem_cons.1 h1 with rfl | h1
            · omega
            · have := (List.pairwise_cons.1 hs).1 d' h1
              omega
         rw [hnil] at this
         cases this
   · obtain ⟨h1, o, ho, hall⟩ := mem_ready.1 hi
     have hlt := (Array.getElem?_eq_some_iff.1 ho).1
     obtain ⟨d, hdc, hdi⟩ := (hiff i hlt).1 h1
     subst hdi
     obtain ⟨l1, l2, rfl⟩ := List.append_of_mem hdc
     have hs' := List.pairwise_append.1 hs
     have ht' := List.pairwise_append.1 ht
     have hap : ∀ e ∈ l1, d.apart e = true := by
      intro e he
      obtain ⟨o1, p1, g1, g2, g3⟩ := ht'.2.2 e he d (by simp)
      rw [ho] at g1
      cases g1
      have hlt' := hs'.2.2 e he d (by simp)
      rcases g3 with q | q | q
      · exfalso
        unfold Oper.waits at q
        obtain ⟨ed, he1, he2⟩ := Array.any_eq_true'.1 q
        simp only [Bool.and_eq_true, beq_iff_eq] at he2
        have hl := hall ed he1 he2.1
        rw [he2.2] at hl
        have hle := (Array.getElem?_eq_some_iff.1 g2).1
        have hun := (hiff e.i hle).2 ⟨e, by simp [he], rfl⟩
        have : e.i < listed.size := by omega
        simp [this] at hl hun
        rw [hun] at hl
        cases hl
      · exfalso
        unfold Oper.waits at q
        obtain ⟨ed, he1, he2⟩ := Array.any_eq_true'.1 q
        simp only [Bool.and_eq_true, beq_iff_eq] at he2
        have := deps g2 ed he1 he2.1
        omega
      · exact q
     obtain ⟨t, u', hst, hch', heq⟩ := hch.pull hap
     obtain ⟨o', p, ho', hrun, _, _, rfl⟩ := hst.done
     rw [ho] at ho'
     cases ho'
     refine ZzJ hE hfb ho hec h (Rd.val_of_run hrun) ?_
     intro mu' ka' act' w' hrel hdef
     have hsub : (l1 ++ l2).Sublist (l1 ++ d :: l2) := (List.Sublist.refl l1).append (List.sublist_cons_self d l2)
     refine ih (l1 ++ l2) _ u' hch' ?_ (hs.sublist hsub) (ht.sublist hsub) _ (by simpa using hsz) ?_ mu' ka' act' w' hrel (hdef.trans hd) ?_
     · simp only [List.length_append, List.length_cons] at hlen ⊢
       omega
     · intro j hj
       by_cases e : d.i = j
       · subst e
         have h2 : (listed.setIfInBounds d.i true).getD d.i true = true := by
          have : d.i < listed.size := by omega
          simp [this]
         rw [h2]
         refine ⟨fun q => (by cases q), fun ⟨d', hd1, hd2⟩ => ?_⟩
         exfalso
         rcases List.mem_append.1 hd1 with q | q
         · have := hs'.2.2 d' q d (by simp)
           omega
         · have := (List.pairwise_cons.1 hs'.2.1).1 d' q
           omega
       · rw [getD_set_ne true e, hiff j hj]
         refine ⟨fun ⟨d', hd1, hd2⟩ => ⟨d', ?_, hd2⟩, fun ⟨d', hd1, hd2⟩ => ⟨d', hsub.subset hd1, hd2⟩⟩
         rcases List.mem_append.1 hd1 with q | q
         · exact List.mem_append.2 (.inl q)
         · rcases List.mem_cons.1 q with rfl | q
           · exact absurd hd2 e
           · exact List.mem_append.2 (.inr q)
     · intro mu2 ka2 act2 w2 hr2 hd2
       exact hQ mu2 ka2 act2 w2 (hr2.eqv heq.symm) hd2
theorem Yzm (hE : E.Ok) {b : Frame} (hfb : E.fits b) {ec : Code → St → Tr (Ex × St)} (hec : YX E ec) (hm : E.P.follows .mixedOrders = true) {id : Nat} {r : St × List Done} (hr : (QT E ec ops (List.range ops.size) s [] []).run = some r) (hx : JM ops = true) (ha : zY ops r.2 = true)
 (h : Rel E.P X s mu ka cst act.tmps.toList w) (hd : act.defers = []) (hQ : ∀ mu' ka' (act' : Act) w', Rel E.P X (bump E ops r.1) mu' ka' cst act'.tmps.toList w' → act'.defers = [] → Q .normal act' w') : yn b E.P (Code.region id ops true) Q act w := by
 obtain ⟨c, h1, h2, h3⟩ := JJ _ _ _ _ _ hr Coh.nil
 rw [List.append_nil] at h2
 rw [h2] at ha
 have hp := List.pairwise_reverse.1 (QJ ha)
 have hlen : c.length = ops.size := by
  have := congrArg List.length h3
  simpa using this
 have hlt : c.Pairwise (fun d e => d.i < e.i) := by
  have := List.pairwise_lt_range (n := ops.size)
  rw [← h3, List.pairwise_map] at this
  exact this
 refine yzV hm (yzI hE hfb hec hx ops.size c s r.1 h1 (Nat.le_of_eq hlen) hlt hp _ (by simp) ?_ mu ka act _ ?_ hd fun mu1 ka1 a1 w1 q1 q2 => hQ mu1 ka1 a1 w1 (jyx q1) q2)
 · intro j hj
   have hm' : j ∈ c.map (·.i) := by rw [h3]; exact List.mem_range.2 hj
   obtain ⟨d, hd1, hd2⟩ := List.mem_map.1 hm'
   exact ⟨fun _ => ⟨d, hd1, hd2⟩, fun _ => by simp [hj]⟩
 · exact (h.grow (w' := { w with drawn := w.drawn + 1 }) ⟨rfl, rfl, rfl, Nat.le_refl _, fun _ _ => rfl⟩).2
theorem ZY {b : Frame} (hfb : E.fits b) {ec : Code → St → Tr (Ex × St)} (ih : YX E ec) {x : Code} {head fin : St → St} {e : Ex} {s' : St} (hh : ∀ {t mu a w ka}, Rel E.P X t mu ka cst a w → ∃ mu' ka', Rel E.P X (head t) mu' ka' cst a w)
 (hf : ∀ {t mu a w ka}, Rel E.P X t mu ka cst a w → ∃ mu' ka', Rel E.P X (fin t) mu' ka' cst a w)
 (hQ : ∀ mu' ka' (act' : Act) w', Rel E.P X s' mu' ka' cst act'.tmps.toList w' → act'.defers = [] → Q e.to act' w') :
 ∀ (N : Nat) (s : St) mu ka (act : Act) w, (iter (ec x) head fin N s).run = some (e, s') → Rel E.P X s mu ka cst act.tmps.toList w → act.defers = [] → QN b E.P x Q N act w
 | 0, s, mu, ka, act, w, hr, h, hd => by simp [iter, Tr.run] at hr
 | N + 1, s, mu, ka, act, w, hr, h, hd => by
   simp only [iter] at hr
   obtain ⟨t, h1, h2⟩ := Zu hr
   obtain ⟨mu0, ka0, h0⟩ := hh h
   refine ih b hfb x _ t.1 t.2 h1 X mu0 ka0 cst act w h0 hd _ ?_
   intro mu' ka' act' w' h' hd'
   cases ht : t.1 <;> rw [ht] at h2 <;> simp only at h2
   · exact ZY hfb ih hh hf hQ N _ mu' ka' act' w' h2 h' hd'
   all_goals
    simp only [Tr.run, Option.some.injEq, Prod.mk.injEq] at h2
    obtain ⟨rfl, rfl⟩ := h2
    obtain ⟨mu2, ka2, h2⟩ := hf h'
    exact hQ mu2 ka2 act' w' h2 hd'
theorem JA {f : Nat} {x : Code} {c0 : Nat} {t : St} (h : Rel E.P X t mu ka cst a w) : ∃ mu' ka', Rel E.P X (JC E f x c0 t) mu' ka' cst a w := by
 unfold JC
 cases (Ys x).bind (E.L f) with
 | none => exact ⟨mu, ka, h⟩
 | some lv =>
   obtain ⟨mu', ka', h'⟩ := h.mask lv.1 c0
   cases E.L 3000000 0 with
   | none => exact ⟨mu', ka', h'⟩
   | some l => exact Rel.wakes _ h'
theorem Qzu {f : Nat} {x : Code} {c0 : Nat} {t : St} (h : Rel P X t mu ka cst a w) : ∃ mu' ka', Rel P X (JzN E f x c0 t) mu' ka' cst a w := by
 unfold JzN
 cases (Ys x).bind (E.L f) with
 | none => exact ⟨mu, ka, h⟩
 | some lv => exact h.mask _ c0
theorem ji (hE : E.Ok) (hm : E.P.follows .mixedOrders = true) : ∀ n, YX E (zu E n)
 | 0, fb, hfb, c, s, e, s', hr, X, mu, ka, cst, act, w, h, hd, Q, hQ => by simp [zu, Tr.run] at hr
 | n + 1, fb, hfb, c, s, e, s', hr, X, mu, ka, cst, act, w, h, hd, Q, hQ => by
   have ih := ji hE hm n
   have base : ∀ {x : Ex × St}, (Tr.ret x).run = some (e, s') → x = (e, s') := fun q => Option.some.inj q
   cases c
   case skip =>
    simp only [zu] at hr
    cases base hr
    exact Je (wp_skip (hQ mu ka act w h hd))
   case region id ops draw =>
    cases draw
    · simp only [zu, St.force_eq] at hr
      obtain ⟨t, h1, h2⟩ := Zu hr
      cases base h2
      exact YzK (ZJ hE hfb ih _ s [] _ h1 Coh.nil mu ka cst act w h hd hQ)
    · simp only [zu, St.force_eq] at hr
      obtain ⟨t, h1, h2⟩ := Zu hr
      cases hx : JM ops && zY ops t.2 with
      | false => rw [hx] at h2; simp [Tr.run] at h2
      | true =>
        rw [hx] at h2
        cases base h2
        simp only [Bool.and_eq_true] at hx
        exact Yzm hE hfb ih hm h1 hx.1 hx.2 h hd hQ
   case seq x y =>
    simp only [zu] at hr
    obtain ⟨t, h1, h2⟩ := Zu hr
    refine qzv (ih fb hfb x s t.1 t.2 h1 X mu ka cst act w h hd _ ?_)
    intro mu' ka' act' w' h' hd'
    cases ht : t.1 <;> rw [ht] at h2 <;> simp only at h2
    · exact ih fb hfb y t.2 e s' h2 X mu' ka' cst act' w' h' hd' Q hQ
    all_goals (cases base h2; exact hQ mu' ka' act' w' h' hd')
   case cond x y z =>
    cases x <;> simp only [zu] at hr
    case tmp d =>
     have hr1 := qA (Coh.nil) hr
     clear hr
     have hv := h.tmp d
     generalize s.tmps.getD d (.pv .undef) = q at hr1 hv
     cases q
     case pv p =>
      cases p
      case bool b =>
       simp only [Tr.run] at hr1
       have hv' := Jo hv
       simp only [VP] at hv'
       refine jzK hv' ?_
       cases b
       · exact ih fb hfb z s e s' hr1 X mu ka cst act w h hd Q hQ
       · exact ih fb hfb y s e s' hr1 X mu ka cst act w h hd Q hQ
      all_goals simp [Tr.run] at hr1
     all_goals simp [Tr.run] at hr1
    case const v =>
     cases v
     case bool b =>
      simp only [Tr.run] at hr
      refine jzK (t := b) rfl ?_
      cases b
      · exact ih fb hfb z s e s' hr X mu ka cst act w h hd Q hQ
      · exact ih fb hfb y s e s' hr X mu ka cst act w h hd Q hQ
     all_goals simp [Tr.run] at hr
    all_goals simp [Tr.run] at hr
   case block id x =>
    simp only [zu] at hr
    obtain ⟨t, h1, h2⟩ := Zu hr
    refine Jyy (ih fb hfb x s t.1 t.2 h1 X mu ka cst act w h hd _ ?_)
    intro mu' ka' act' w' h' hd'
    cases ht : t.1 <;> rw [ht] at h2 <;> simp only at h2
    case exit j =>
     by_cases e1 : j = id
     · subst e1
       simp only [beq_self_eq_true] at h2
       cases base h2
       simp only [Ex.to, Exit.inBlock, if_true]
       exact hQ mu' ka' act' w' h' hd'
     · have e2 : (j == id) = false := by simpa using e1
       simp only [e2] at h2
       cases base h2
       simp only [Ex.to, Exit.inBlock, if_neg e1]
       exact hQ mu' ka' act' w' h' hd'
    all_goals (cases base h2; exact hQ mu' ka' act' w' h' hd')
   case loop x =>
    simp only [zu] at hr
    cases hu : Yzg E s.fn x with
    | true =>
      rw [hu] at hr
      cases hv : (E.L s.fn 5000000).isSome with
      | true =>
        rw [hv] at hr
        exact jzm 20 (ZY hfb ih JA Qzu hQ 20 s mu ka act w hr h hd)
      | false =>
        rw [hv] at hr
        exact jzm 20 (ZY hfb ih (fun q => ⟨_, _, q⟩) (fun q => ⟨_, _, q⟩) hQ 20 s mu ka act w hr h hd)
    | false =>
      rw [hu] at hr
      simp only [Tr.run] at hr
      obtain ⟨t, h1, h2⟩ := Option.bind_eq_some_iff.1 hr
      cases Option.some.inj h2
      exact jzm E.N (ZY hfb ih JA Qzu hQ E.N s mu ka act w h1 h hd)
   case exit id =>
    simp only [zu] at hr
    cases base hr
    exact Je (wp_exit (hQ mu ka act w h hd))
   case scope x =>
    simp only [zu] at hr
    obtain ⟨t, h1, h2⟩ := Zu hr
    cases ht : t.1 <;> rw [ht] at h2 <;> simp only at h2
    case goto l =>
     cases hf : findLabel x l with
     | none => rw [hf] at h2; simp [Tr.run] at h2
     | some rest =>
       rw [hf] at h2
       simp only at h2
       obtain ⟨q, h3, h4⟩ := Zu h2
       refine Yyb l hf (ih fb hfb x s t.1 t.2 h1 X mu ka cst act w h hd _ ?_)
       intro mu' ka' act' w' h' hd'
       rw [ht]
       refine ⟨rfl, ih fb hfb rest t.2 q.1 q.2 h3 X mu' ka' cst act' w' h' hd' _ ?_⟩
       intro mu2 ka2 act2 w2 h2' hd2
       cases hq : q.1 <;> rw [hq] at h4 <;> simp only at h4
       case goto l' => simp [Tr.run] at h4
       all_goals (cases base h4; exact hQ mu2 ka2 act2 w2 h2' hd2)
    all_goals
     cases base h2
     refine zyx (ih fb hfb x s t.1 t.2 h1 X mu ka cst act w h hd _ ?_)
     intro mu' ka' act' w' h' hd'
     rw [ht]
     exact hQ mu' ka' act' w' h' hd'
   case label l =>
    simp only [zu] at hr
    cases base hr
    exact Je (wp_label (hQ mu ka act w h hd))
   case goto l =>
    simp only [zu] at hr
    cases base hr
    exact Je (wp_goto (hQ mu ka act w h hd))
   case ret =>
    simp only [zu] at hr
    cases base hr
    exact Je (wp_ret (hQ mu ka act w h hd))
   all_goals (simp only [zu] at hr; simp [Tr.run] at hr)
theorem Qzm (hE : E.Ok) (hm : E.P.follows .mixedOrders = true) (n : Nat) (hcom : E.com = false) (c : Code) (s : St) (e : Ex) (s' : St) (hr : (zu E n c s).run = some (e, s')) (X : Out) (mu : Nat → Option Nat) (ka : Nat → Nat) (cst : List (List Value)) (act : Act) (w : World) (h : Rel E.P X s mu ka cst act.tmps.toList w) (hd : act.defers = [])
 (Q : Exit → Act → World → Prop) (hQ : ∀ mu' ka' (act' : Act) w', Rel E.P X s' mu' ka' cst act'.tmps.toList w' → act'.defers = [] → Q e.to act' w') : c.wp E.P Q act w :=
 Jzf fun b => ji hE hm n b (fun q => by rw [hcom] at q; cases q) c s e s' hr X mu ka cst act w h hd Q hQ
end
def pvEnd (m : List (Nat × Ob)) : AV → Option PV
 | .pv p => some p
 | .lit t xs => some (.list t xs)
 | .own id => match Zz id m with
   | some (.row _ t xs) => some (.list t xs)
   | _ => none
 | .fn (.func f) [] [] => some (.fn f)
 | _ => none
def pvsEnd (m : List (Nat × Ob)) : List AV → Option (List PV)
 | [] => some []
 | a :: as => match pvEnd m a, pvsEnd m as with
   | some p, some ps => some (p :: ps)
   | _, _ => none
def aggEnd (m : List (Nat × Ob)) : AV → Option PV
 | .agg cs => match pvsEnd m cs with
   | some ps => some (.agg ps)
   | none => none
 | v => pvEnd m v
def aggsEnd (m : List (Nat × Ob)) : List AV → Option (List PV)
 | [] => some []
 | a :: as => match aggEnd m a, aggsEnd m as with
   | some p, some ps => some (p :: ps)
   | _, _ => none
def resEnd (m : List (Nat × Ob)) (v : AV) : Option Res :=
 match v with
 | .tup vs => match aggsEnd m vs with
   | some ps => some (.pv (.tup ps))
   | none => none
 | .own id => match Zz id m with
   | some (.row 2 t xs) => some (.fresh t xs)
   | some (.row _ t xs) => some (.pv (.list t xs))
   | _ => none
 | v => match aggEnd m v with
   | some p => some (.pv p)
   | none => none
def qy (E : Env) (n f : Nat) (args : List PV) : Tr Res :=
 match E.P.funcs[f]? with
 | some fn => match fn.body with
   | some c => (zu E n c { tmps := args.map Qg ++ List.replicate (fn.ntmps - args.length) (.tup []), stack := [], mem := [], cur := 0, ctr := 1, fn := f }).bind fun r =>
     match r.1 with
     | .normal | .ret => (jr E fn r.2).bind fun v => match resEnd r.2.mem v with
       | some q => .ret q
       | none => .fail
     | _ => .fail
   | none => .fail
 | none => .fail
section
variable {P : Program} {X : Out} {s : St} {mu : Nat → Option Nat} {ka : Nat → Nat} {cst : List (List Value)} {act : Act} {a : List Value} {w : World} {E : Env}
theorem Rel.drop (h : Rel P X s mu ka cst a w) : Keep w (Smut P X.S0 s.mem mu) w X.S0 := fun b o u hc hs => ⟨hc, fun q => hs (.inl q)⟩
theorem Rel.ownEnd (h : Rel P X s mu ka cst a w) {id m t : Nat} {xs : List (List PV)} {v : Value} (hf : Zz id s.mem = some (.row m t xs)) (hv : VA P (cx P X s.mem mu ka w) (.own id) v) : VP P w X.S0 (.list t xs) v := by
 by_cases hm : m ≤ 1
 · exact VP.keep h.drop _ _ (h.ownList hf hm hv)
 · simp only [VA] at hv
   obtain ⟨t', n, hrt, hv⟩ := hv
   have hrt' : rtOf s.mem id = some (t', n) := hrt
   rw [Jn hf] at hrt'
   cases hrt'
   obtain ⟨m', rfl⟩ : ∃ m', m = m' + 1 := ⟨m - 1, by omega⟩
   simp only [VP]
   rcases hv with ⟨b, hb, rfl⟩ | ⟨hb, hn, A, rfl⟩
   · obtain ⟨h1, h2, h3, vs, h4, h5, h6, h7⟩ := h.rowAt hf hb
     refine ⟨_, _, _, rfl, h3, h1, .inr ⟨b, 0, rfl, fun j u hu => ?_, fun j _ q => ?_⟩, VPss.keep h.drop _ _ h7⟩
     · rw [cell_of_row w b (0 + j) vs t (0, 0) h4, Nat.zero_add]
       have hj : j < _ := (List.getElem?_eq_some_iff.1 hu).1
       rw [List.getElem?_take] at hu
       split at hu
       · simpa using hu
       · cases hu
     · have := X.lt _ _ q
       have := (h.blk id b hb).1
       omega
   · have hx : xs = [] := List.length_eq_zero_iff.1 hn
     subst hx
     exact ⟨A, 0, [], rfl, Nat.le_refl _, (fun e he => by cases he), .inl rfl, by simp [VPss]⟩
theorem Rel.pvEnd (h : Rel P X s mu ka cst a w) {v : AV} {u : Value} {p : PV} (hp : pvEnd s.mem v = some p) (hv : VA P (cx P X s.mem mu ka w) v u) : VP P w X.S0 p u := by
 unfold Go.Proofs.YtgfnpgnfklcicaaGreatS.pvEnd at hp
 split at hp
 · cases hp
   exact VP.keep h.drop _ _ (Jo hv)
 · cases hp
   simp only [VA] at hv
   obtain ⟨A, us, rfl, h2, h3, h4⟩ := hv
   simp only [VP]
   exact ⟨A, _, us, rfl, Nat.le_refl _, h2, h3.keep h.drop, VPss.keep h.drop _ _ h4⟩
 · split at hp
   · rename_i hf
     cases hp
     exact h.ownEnd hf hv
   · cases hp
 · cases hp
   simp only [VA, VAs] at hv
   obtain ⟨as, bs, rfl, rfl, rfl⟩ := hv
   simp only [VP]
 · cases hp
theorem Rel.pvsEnd (h : Rel P X s mu ka cst a w) : ∀ {vs : List AV} {us : List Value} {ps : List PV}, pvsEnd s.mem vs = some ps → VAs P (cx P X s.mem mu ka w) vs us → VPs P w X.S0 ps us
 | [], us, ps, hp, hv => by
   simp only [Go.Proofs.YtgfnpgnfklcicaaGreatS.pvsEnd, Option.some.injEq] at hp
   subst hp
   simpa only [VAs, VPs] using hv
 | v :: vs, us, ps, hp, hv => by
   simp only [Go.Proofs.YtgfnpgnfklcicaaGreatS.pvsEnd] at hp
   split at hp
   · rename_i p qs h1 h2
     cases hp
     simp only [VAs] at hv
     obtain ⟨x, xs, rfl, h3, h4⟩ := hv
     simp only [VPs]
     exact ⟨x, xs, rfl, h.pvEnd h1 h3, h.pvsEnd h2 h4⟩
   · cases hp
theorem Rel.aggEnd (h : Rel P X s mu ka cst a w) {v : AV} {u : Value} {p : PV} (hp : aggEnd s.mem v = some p) (hv : VA P (cx P X s.mem mu ka w) v u) : VP P w X.S0 p u := by
 unfold Go.Proofs.YtgfnpgnfklcicaaGreatS.aggEnd at hp
 split at hp
 · split at hp
   · rename_i ps h1
     cases hp
     simp only [VA] at hv
     obtain ⟨vs, rfl, h2⟩ := hv
     simp only [VP]
     exact ⟨vs, rfl, h.pvsEnd h1 h2⟩
   · cases hp
 · exact h.pvEnd hp hv
theorem Rel.aggsEnd (h : Rel P X s mu ka cst a w) : ∀ {vs : List AV} {us : List Value} {ps : List PV}, aggsEnd s.mem vs = some ps → VAs P (cx P X s.mem mu ka w) vs us → VPs P w X.S0 ps us
 | [], us, ps, hp, hv => by
   simp only [Go.Proofs.YtgfnpgnfklcicaaGreatS.aggsEnd, Option.some.injEq] at hp
   subst hp
   simpa only [VAs, VPs] using hv
 | v :: vs, us, ps, hp, hv => by
   simp only [Go.Proofs.YtgfnpgnfklcicaaGreatS.aggsEnd] at hp
   split at hp
   · rename_i p qs h1 h2
     cases hp
     simp only [VAs] at hv
     obtain ⟨x, xs, rfl, h3, h4⟩ := hv
     simp only [VPs]
     exact ⟨x, xs, rfl, h.aggEnd h1 h3, h.aggsEnd h2 h4⟩
   · cases hp
theorem Rel.resEnd {w0 : World} (h : Rel P X s mu ka cst a w) (hB : X.B = w0.heap.size) {v : AV} {u : Value} {r : Res} (hp : resEnd s.mem v = some r) (hv : VA P (cx P X s.mem mu ka w) v u) : ResRel P X.S0 w0 w r u := by
 have plain : ∀ {v : AV} {r : Res}, (match Go.Proofs.YtgfnpgnfklcicaaGreatS.aggEnd s.mem v with
  | some p => some (Res.pv p)
  | none => none) = some r → VA P (cx P X s.mem mu ka w) v u → ResRel P X.S0 w0 w r u := by
  intro v r hp hv
  split at hp
  · rename_i p h1
    cases hp
    exact h.aggEnd h1 hv
  · cases hp
 unfold Go.Proofs.YtgfnpgnfklcicaaGreatS.resEnd at hp
 split at hp
 · split at hp
   · rename_i ps h1
     cases hp
     simp only [VA] at hv
     obtain ⟨vs, rfl, h2⟩ := hv
     show VP P w X.S0 _ _
     simp only [VP]
     exact ⟨vs, rfl, h.aggsEnd h1 h2⟩
   · cases hp
 · rename_i id
   split at hp
   · rename_i t xs hf
     cases hp
     have hv0 := hv
     simp only [VA] at hv
     obtain ⟨t', n, hrt, hv⟩ := hv
     have hrt' : rtOf s.mem id = some (t', n) := hrt
     rw [Jn hf] at hrt'
     cases hrt'
     rcases hv with ⟨b, hb, rfl⟩ | ⟨hb, hn, A, rfl⟩
     · obtain ⟨h1, h2, h3, vs, h4, h5, h6, h7⟩ := h.rowAt (m := 1) hf hb
       refine ⟨h1, h2, .inl ⟨b, _, rfl, ?_, h3, h5, vs, h4, h6, ?_⟩⟩
       · rw [← hB]
         exact (h.blk id b hb).1
       · refine VPss.keep (fun b' o u hc hs => ⟨hc, fun q => hs ?_⟩) _ _ h7
         rcases q with q | rfl
         · exact .inl q
         · exact .inr ⟨id, _, hf, hb, trivial⟩
     · rcases h.obs id _ hf with ⟨b, hb', _⟩ | ⟨_, m, t1, e, hz⟩
       · rw [show mu id = none from hb] at hb'
         cases hb'
       · cases e
         exact ⟨(fun e he => by cases he), hz, .inr ⟨rfl, A, rfl⟩⟩
   · rename_i hf
     cases hp
     exact h.ownEnd hf hv
   · cases hp
 · exact plain hp hv
theorem yU (hE : E.Ok) (hm : E.P.follows .mixedOrders = true) {n f : Nat} {ps : List PV} {r : Res} (hr : (qy E n f ps).run = some r) {w : World} {S : Nat → Nat → Prop} {vs : List Value} (hS : ∀ b o, S b o → b < w.heap.size) (hv : VPs E.P w S ps vs) :
 Calls E.P f vs.toArray w fun e w' => ∃ v, e = .returned v ∧ Below w.heap.size w w' ∧ ResRel E.P S w w' r v := by
 unfold qy at hr
 cases hf : E.P.funcs[f]? with
 | none => rw [hf] at hr; simp [Tr.run] at hr
 | some fn =>
   rw [hf] at hr
   simp only at hr
   cases hb : fn.body with
   | none => rw [hb] at hr; simp [Tr.run] at hr
   | some c =>
     rw [hb] at hr
     simp only at hr
     obtain ⟨q, h1, h2⟩ := Zu hr
     clear hr
     refine Qi hf hb ?_
     let X : Out := ⟨w.heap.size, w, S, hS, Nat.le_refl _⟩
     have hS0 : Smut E.P S [] (fun _ => none) = S := by
      funext b o
      apply propext
      refine ⟨fun q => ?_, .inl⟩
      rcases q with q | ⟨id, ob, g, _⟩
      · exact q
      · cases g
     have hrel : Rel E.P X { tmps := ps.map Qg ++ List.replicate (fn.ntmps - ps.length) (.tup []), stack := [], mem := [], cur := 0, ctr := 1, fn := f } (fun _ => none) (fun _ => 0) [] (vs ++ List.replicate (fn.ntmps - vs.length) undef) w := by
      refine ⟨Below.refl _ _, (fun id b q => by cases q), (fun i j b oi oj q => by cases q), (fun id ob q => by cases q), ?_, rfl, (fun i x vs q => by cases q)⟩
      refine VAs.append ?_ ?_
      · refine VAs.of_get (by simp [hv.length]) fun i x u h3 h4 => ?_
        rw [List.getElem?_map] at h3
        obtain ⟨p, hp, rfl⟩ := Option.map_eq_some_iff.1 h3
        obtain ⟨u', h5, h6⟩ := hv.get hp
        rw [h4] at h5
        cases h5
        refine QB ?_
        show VP E.P w (Smut E.P S [] (fun _ => none)) p u
        rw [hS0]
        exact h6
      · rw [hv.length]
        generalize fn.ntmps - ps.length = k
        refine VAs.of_get (by simp) fun i x v h1 h2 => ?_
        rw [List.getElem?_replicate] at h1 h2
        split at h1
        · simp_all
          subst h1
          subst h2
          exact JV
        · cases h1
     refine ji hE hm n (ql f) (E.fits_frame f) c _ q.1 q.2 (show _ = some (q.1, q.2) from h1) X (fun _ => none) (fun _ => 0) [] _ w ?_ rfl _ ?_
     · simpa using hrel
     · intro mu' ka' act' w' hrel' hd
       have fin : ((jr E fn q.2).bind fun v => match resEnd q.2.mem v with
        | some q => Tr.ret q
        | none => .fail).run = some r → ∃ v, (results fn act'.tmps).run E.P w' = .ok v w' ∧ (∃ v', Ending.returned v = .returned v' ∧ Below w.heap.size w w' ∧ ResRel E.P S w w' r v') := by
        intro h2
        obtain ⟨v, h3, h4⟩ := Zu h2
        obtain ⟨u, h5, h6⟩ := zn hrel' h3
        refine ⟨u, h5, u, rfl, hrel'.bel, ?_⟩
        cases hq : resEnd q.2.mem v with
        | none => rw [hq] at h4; simp [Tr.run] at h4
        | some r' =>
          rw [hq] at h4
          simp only [Tr.run, Option.some.injEq] at h4
          subst h4
          exact Rel.resEnd (X := X) hrel' rfl hq h6
       cases hq : q.1 <;> rw [hq] at h2 <;> simp only at h2
       · exact ⟨hd, fin h2⟩
       · simp [Tr.run] at h2
       · simp [Tr.run] at h2
       · exact ⟨hd, fin h2⟩
def Res.plain : Res → Res
 | .fresh t xs => .pv (.list t xs)
 | r => r
theorem ResRel.plain {S : Nat → Nat → Prop} {w w' : World} (hS : ∀ b o, S b o → b < w.heap.size) {r : Res} {v : Value} (h : ResRel P S w w' r v) : ResRel P S w w' r.plain v := by
 cases r with
 | pv p => exact h
 | fresh t xs =>
   obtain ⟨h1, h2, h3⟩ := h
   show VP P w' S (.list t xs) v
   simp only [VP]
   rcases h3 with ⟨b, k, rfl, hf⟩ | ⟨rfl, A, rfl⟩
   · obtain ⟨vs, g1, g2, g3⟩ := hf.cells
     refine ⟨_, _, _, rfl, hf.le, h1, .inr ⟨b, 0, rfl, fun j u hu => ?_, fun j _ q => ?_⟩, VPss.keep (fun b' o u hc hs => ⟨hc, fun q => hs (.inl q)⟩) _ _ g3⟩
     · rw [cell_of_row w' b (0 + j) vs t (0, 0) g1, Nat.zero_add]
       rw [List.getElem?_take] at hu
       split at hu
       · simpa using hu
       · cases hu
     · have := hS _ _ q
       have := hf.new
       omega
   · exact ⟨A, 0, [], rfl, Nat.le_refl _, (fun e he => by cases he), .inl rfl, by simp [VPss]⟩
def YzV (P : Program) (ps : List PV) : Prop := ∃ w S vs, VPs P w S ps vs
theorem Jzm {f : Nat} {o : Ora} (n : Nat) (h : ∀ ps, YzV P ps → o.pre ps = true → ∃ (E : Env) (r : Res), E.P = P ∧ E.Ok ∧ (qy E n f ps).run = some r ∧ (r = o.res ps ∨ r.plain = o.res ps)) (hm : P.follows .mixedOrders = true) : Spec P f o := by
 intro w S ps vs hS hv hp
 obtain ⟨E, r, rfl, hE, hr, hq⟩ := h ps ⟨w, S, vs, hv⟩ hp
 refine Calls.mono (yU hE hm hr hS hv) ?_
 rintro e w' ⟨v, h1, h2, h3⟩
 refine ⟨v, h1, h2, ?_⟩
 rcases hq with rfl | hq
 · exact h3
 · rw [← hq]
   exact h3.plain hS
def Env.add (E : Env) (f : Nat) (o : Ora) : Env := { E with O := fun g => if g = f then some o else E.O g }
end
section
variable {α : Type}
def Tr.isTest : Tr α → Bool
 | .test .. => true
 | _ => false
def Tr.asks : Tr α → Bool
 | .test b _ _ => b
 | _ => false
def Tr.sub : List Bool → Tr α → Tr α
 | [], t => t
 | b :: l, .test _ x y => match b with
   | true => x.sub l
   | false => y.sub l
 | _ :: _, _ => .fail
def Tr.waitN : Tr α → Nat
 | .wait n _ _ _ _ => n
 | _ => 0
def Tr.waitC : Tr α → Code
 | .wait _ c _ _ _ => c
 | _ => .skip
def Tr.waitS : Tr α → St
 | .wait _ _ s _ _ => s
 | _ => ⟨[], [], [], 0, 0, 0⟩
def Tr.waitX : Tr α → Option (Ex × St)
 | .wait _ _ _ x _ => x
 | _ => none
def Tr.waitK : Tr α → Ex × St → Tr α
 | .wait _ _ _ _ k => k
 | _ => fun _ => .fail
theorem Tr.run_test {t : Tr α} {b : Bool} {x y : Option α} (h : t.isTest = true) (hb : t.asks = b) (hx : (t.sub [true]).run = x) (hy : (t.sub [false]).run = y) : t.run = bif b then x else y := by
 cases t with
 | test c u v =>
   subst hb
   subst hx
   subst hy
   rfl
 | _ => cases h
def Tr.isWait : Tr α → Bool
 | .wait .. => true
 | _ => false
theorem Tr.run_wait {t : Tr α} {β : Type} {x : Option β} {T : β → Ex × St} {K : β → Option α} (h : t.isWait = true) (hx : t.waitX = x.map T) (hk : ∀ z, (t.waitK (T z)).run = K z) : t.run = x.bind K := by
 cases t with
 | wait n c s x' k =>
   have hx' : x' = x.map T := hx
   subst hx'
   cases x with
   | none => rfl
   | some z => exact hk z
 | _ => cases h
theorem Tr.run_of {t : Tr α} {β : Type} {g : Tr β} {f : β → α} (h : t.run = (g.bind fun o => .ret (f o)).run) : t.run = g.run.map f := by
 rw [h, Tr.run_bind]
 cases g.run <;> rfl
end
def after (head fin : St → St) (r : Ex × St) : St ⊕ (Ex × St) :=
 match r.1 with
 | .normal => .inl (head r.2)
 | e => .inr (e, fin r.2)
def Jv {σ τ : Type} (stp : σ → Option (σ ⊕ τ)) : Nat → σ → Option τ
 | 0, _ => none
 | n + 1, x => match stp x with
   | some (.inl y) => Jv stp n y
   | some (.inr z) => some z
   | none => none
def Zt {σ τ : Type} (S : σ → St) (T : τ → Ex × St) : σ ⊕ τ → St ⊕ (Ex × St)
 | .inl x => .inl (S x)
 | .inr z => .inr (T z)
def yv (E : Env) (n f c0 : Nat) (c : Code) (s : St) : Tr (St ⊕ (Ex × St)) := (zu E n c s).bind fun r => .ret (after (JC E f c c0) (JzN E f c c0) r)
theorem Jze {σ τ : Type} {body : St → Tr (Ex × St)} {head fin : St → St} {S : σ → St} {T : τ → Ex × St} {stp : σ → Option (σ ⊕ τ)}
 (hstep : ∀ x, ((body (S x)).bind fun r => .ret (after head fin r)).run = (stp x).map (Zt S T)) :
 ∀ (N : Nat) (s : St) (x : σ), head s = S x → (iter body head fin N s).run = (Jv stp N x).map T
 | 0, s, x, _ => rfl
 | N + 1, s, x, h0 => by
   have h1 := hstep x
   rw [Tr.run_bind] at h1
   simp only [iter, Jv]
   rw [Tr.run_bind, h0]
   cases hb : (body (S x)).run with
   | none =>
     rw [hb] at h1
     cases hs : stp x with
     | none => rfl
     | some y => rw [hs] at h1; cases h1
   | some r =>
     rw [hb] at h1
     cases hs : stp x with
     | none => rw [hs] at h1; cases h1
     | some y =>
       rw [hs] at h1
       have h2 : after head fin r = Zt S T y := Option.some.inj h1
       obtain ⟨e, s'⟩ := r
       cases y with
       | inl y =>
         cases e <;> simp only [after, Zt] at h2
         · exact Jze hstep N s' y (Sum.inl.inj h2)
         all_goals cases h2
       | inr z =>
         cases e <;> simp only [after, Zt] at h2
         · cases h2
         all_goals
          have h3 := Sum.inr.inj h2
          show some _ = some (T z)
          rw [← h3]
theorem Qv {α β : Type} {t : Tr α} {wrap : β → α} {E : Env} {n f c0 : Nat} {c : Code} {s : St} {σ τ : Type} (S : σ → St) (T : τ → Ex × St) (stp : σ → Option (σ ⊕ τ)) (x0 : σ) (K : τ → Option β)
 (hstep : ∀ x, (yv E n f c0 c (S x)).run = (stp x).map (Zt S T))
 (hw : t.isWait = true) (hf : s.fn = f) (hc : s.ctr = c0) (hx : t.waitX = Zyk E (zu E n) c s) (h0 : JC E f c c0 s = S x0)
 (hk : ∀ z, (t.waitK (T z)).run = (K z).map wrap) : t.run = ((Jv stp E.N x0).bind K).map wrap := by
 subst hf
 subst hc
 have := Jze (body := zu E n c) hstep E.N s x0 h0
 have h2 : t.waitX = (Jv stp E.N x0).map T := hx.trans this
 rw [Tr.run_wait hw h2 hk]
 cases Jv stp E.N x0 <;> rfl
theorem Yz {α β : Type} {t : Tr α} {wrap : β → α} {b : Bool} {x y : Option β} (h : t.isTest = true) (hb : t.asks = b) (hx : (t.sub [true]).run = x.map wrap) (hy : (t.sub [false]).run = y.map wrap) : t.run = (bif b then x else y).map wrap := by
 rw [Tr.run_test h hb hx hy]
 cases b <;> rfl
theorem Env.Ok.add {E : Env} (hE : E.Ok) {f : Nat} {o : Ora} (h : Spec E.P f o) : (E.add f o).Ok := by
 refine ⟨fun g o' hg => ?_, hE.names, hE.tak⟩
 have hg' : (if g = f then some o else E.O g) = some o' := hg
 by_cases e : g = f
 · rw [if_pos e] at hg'
   cases hg'
   rw [e]
   exact h
 · rw [if_neg e] at hg'
   exact hE.ora g o' hg'
def okK : K → PV → Bool
 | .int k, .int j _ => decide (j = k)
 | .bool, .bool _ => true
 | .str, .str _ => true
 | .list t, .list u _ => u == t
 | _, _ => false
theorem qzI {k : K} {p : PV} (h : okK k p = true) : eta k p = p := by
 cases k <;> cases p <;> simp [okK] at h <;> simp [eta, pInt, jb, pStr, Zy, h]
def okKs : List K → List PV → Bool
 | [], [] => true
 | k :: ks, p :: ps => okK k p && okKs ks ps
 | _, _ => false
theorem Jzu : ∀ {ks : List K} {ps : List PV}, okKs ks ps = true → etas ks ps = ps
 | [], [], _ => rfl
 | k :: ks, p :: ps, h => by
   simp only [okKs, Bool.and_eq_true] at h
   show eta k p :: etas ks ps = _
   rw [qzI h.1, Jzu h.2]
 | [], _ :: _, h => by cases h
 | _ :: _, [], h => by cases h
abbrev PK := Bool × List K
def okP (t : PK) (p : PV) : Bool :=
 match t.1, t.2, p with
 | true, ks, .agg cs => okKs ks cs
 | false, [k], p => okK k p
 | _, _, _ => false
def canP (t : PK) (p : PV) : PV :=
 match t.1, t.2 with
 | true, ks => .agg (etas ks p.cells)
 | false, [k] => eta k p
 | _, _ => p
def okPs : List PK → List PV → Bool
 | [], [] => true
 | t :: ts, p :: ps => okP t p && okPs ts ps
 | _, _ => false
def ym : List PK → List PV → List PV
 | [], _ => []
 | t :: ts, ps => canP t (ps.headD .undef) :: ym ts ps.tail
theorem yya {t : PK} {p : PV} (h : okP t p = true) : canP t p = p := by
 obtain ⟨b, ks⟩ := t
 cases b
 · cases ks with
   | nil => simp [okP] at h
   | cons k ks =>
     cases ks with
     | nil => exact qzI (by simpa [okP] using h)
     | cons => simp [okP] at h
 · cases p <;> simp [okP] at h
   show PV.agg (etas ks (PV.cells (.agg _))) = _
   simp [PV.cells, Jzu h]
theorem Yr : ∀ {ts : List PK} {ps : List PV}, okPs ts ps = true → ym ts ps = ps
 | [], [], _ => rfl
 | t :: ts, p :: ps, h => by
   simp only [okPs, Bool.and_eq_true] at h
   show canP t p :: ym ts ps = _
   rw [yya h.1, Yr h.2]
 | [], _ :: _, h => by cases h
 | _ :: _, [], h => by cases h
theorem zI {P : Program} {f : Nat} (n : Nat) (ts : List PK) (pre : List PV → Bool) (res : List PV → Res) (hm : P.follows .mixedOrders = true)
 (h : ∀ ps, YzV P ps → okPs ts ps = true → pre ps = true → ∃ (E : Env) (r : Res), E.P = P ∧ E.Ok ∧ (qy E n f (ym ts ps)).run = some r ∧ (r = res ps ∨ r.plain = res ps)) : Spec P f ⟨fun ps => okPs ts ps && pre ps, res⟩ :=
 Jzm n (fun ps hw hp => by
  have hp' : (okPs ts ps && pre ps) = true := hp
  simp only [Bool.and_eq_true] at hp'
  obtain ⟨E, r, h1, h2, h3, h4⟩ := h ps hw hp'.1 hp'.2
  rw [Yr hp'.1] at h3
  exact ⟨E, r, h1, h2, h3, h4⟩) hm
theorem Z0 {σ τ : Type} {stp : σ → Option (σ ⊕ τ)} {n : Nat} {x : σ} : Jv stp (n + 1) x = match stp x with
 | some (.inl y) => Jv stp n y
 | some (.inr z) => some z
 | none => none := rfl
theorem Yw {σ τ : Type} {stp : σ → Option (σ ⊕ τ)} {n : Nat} {x y : σ} (h : stp x = some (.inl y)) : Jv stp (n + 1) x = Jv stp n y := by rw [Z0, h]
theorem Qu {σ τ : Type} {stp : σ → Option (σ ⊕ τ)} {n : Nat} {x : σ} {z : τ} (h : stp x = some (.inr z)) : Jv stp (n + 1) x = some z := by rw [Z0, h]
theorem yI {σ τ β : Type} {stp : σ → Option (σ ⊕ τ)} (s : Nat → List β → σ) (e : List β → τ) (g : Nat → β) (n : Nat)
 (hgo : ∀ i acc, i < n → acc.length + 1 ≤ most → stp (s i acc) = some (.inl (s (i + 1) (acc ++ [g i])))) (hend : ∀ acc, stp (s n acc) = some (.inr (e acc))) :
 ∀ (k i : Nat) (acc : List β), i + k = n → acc.length + k ≤ most → Jv stp (k + 1) (s i acc) = some (e (acc ++ (List.range' i k).map g))
 | 0, i, acc, h, _ => by
   have : i = n := by omega
   subst this
   rw [Qu (hend acc)]
   simp
 | k + 1, i, acc, h, hl => by
   rw [Yw (hgo i acc (by omega) (by omega)), yI s e g n hgo hend k (i + 1) (acc ++ [g i]) (by omega) (by simp; omega)]
   rw [List.range'_succ, List.map_cons, List.append_assoc]
   rfl
theorem zzd {σ τ : Type} {stp : σ → Option (σ ⊕ τ)} (s : Nat → σ) (e0 e1 : τ) (p : Nat → Bool) (n : Nat)
 (hgo : ∀ i, i < n → p i = true → stp (s i) = some (.inl (s (i + 1)))) (hno : ∀ i, i < n → p i = false → stp (s i) = some (.inr e0)) (hend : stp (s n) = some (.inr e1)) :
 ∀ (k i : Nat), i + k = n → Jv stp (k + 1) (s i) = some (bif (List.range' i k).all p then e1 else e0)
 | 0, i, h => by
   have : i = n := by omega
   subst this
   rw [Qu hend]
   rfl
 | k + 1, i, h => by
   rw [List.range'_succ, List.all_cons]
   cases hp : p i with
   | true => rw [Yw (hgo i (by omega) hp), zzd s e0 e1 p n hgo hno hend k (i + 1) (by omega), Bool.true_and]
   | false => rw [Qu (hno i (by omega) hp)]; rfl
theorem yu {n : Int} (h0 : -9223372036854775808 ≤ n) (h1 : n ≤ 9223372036854775807) : IntKind.i64.wrap n = n := by
 simp only [IntKind.wrap, IntKind.signed, IntKind.bits]
 simp
 omega
theorem Qr {i : Nat} (h : i < 9223372036854775807) : IntKind.i64.wrap ((i : Int) + 1) = ((i + 1 : Nat) : Int) := by
 rw [yu (by omega) (by omega)]
 omega
def fitK : K → PV → PV
 | .list t, .list u xs => match u == t with
   | true => .list u xs
   | false => match xs with
     | [] => .list t []
     | _ :: _ => .list u xs
 | _, p => p
def Zyx : List K → List PV → List PV
 | k :: ks, p :: ps => fitK k p :: Zyx ks ps
 | _, ps => ps
def fitP (t : PK) (p : PV) : PV :=
 match t.1, t.2, p with
 | true, ks, .agg cs => .agg (Zyx ks cs)
 | false, [k], p => fitK k p
 | _, _, p => p
def Yyx : List PK → List PV → List PV
 | t :: ts, p :: ps => fitP t p :: Yyx ts ps
 | _, ps => ps
def Res.fit (ts : List PK) : Res → Res
 | .pv p => match p, ts with
   | .tup ps, ts => .pv (.tup (Yyx ts ps))
   | p, [t] => .pv (fitP t p)
   | p, _ => .pv p
 | r => r
def Qw (ts : List PK) (t : Tr Res) : Tr Res := t.bind fun r => .ret (r.fit ts)
section
variable {P : Program} {w : World} {S : Nat → Nat → Prop}
theorem jzI {k : K} {p : PV} {v : Value} (h : VP P w S p v) : VP P w S (fitK k p) v := by
 unfold fitK
 split
 · split
   · exact h
   · split
     · simp only [VP] at h ⊢
       obtain ⟨A, cap, us, h1, h2, h3, h4, h5⟩ := h
       exact ⟨A, cap, us, h1, h2, fun e he => (by cases he), h4, h5⟩
     · exact h
 · exact h
theorem yzd : ∀ {ks : List K} {ps : List PV} {vs : List Value}, VPs P w S ps vs → VPs P w S (Zyx ks ps) vs
 | [], ps, vs, h => by
   cases ps <;> exact h
 | k :: ks, [], vs, h => h
 | k :: ks, p :: ps, vs, h => by
   simp only [VPs] at h
   obtain ⟨u, us, rfl, h1, h2⟩ := h
   simp only [Zyx, VPs]
   exact ⟨u, us, rfl, jzI h1, yzd h2⟩
theorem ZzI {t : PK} {p : PV} {v : Value} (h : VP P w S p v) : VP P w S (fitP t p) v := by
 unfold fitP
 split
 · simp only [VP] at h ⊢
   obtain ⟨vs, h1, h2⟩ := h
   exact ⟨vs, h1, yzd h2⟩
 · exact jzI h
 · exact h
theorem qzd : ∀ {ts : List PK} {ps : List PV} {vs : List Value}, VPs P w S ps vs → VPs P w S (Yyx ts ps) vs
 | [], ps, vs, h => by
   cases ps <;> exact h
 | k :: ks, [], vs, h => h
 | k :: ks, p :: ps, vs, h => by
   simp only [VPs] at h
   obtain ⟨u, us, rfl, h1, h2⟩ := h
   simp only [Yyx, VPs]
   exact ⟨u, us, rfl, ZzI h1, qzd h2⟩
theorem ResRel.fit {w' : World} {ts : List PK} {r : Res} {v : Value} (h : ResRel P S w w' r v) : ResRel P S w w' (r.fit ts) v := by
 unfold Res.fit
 split
 · split
   · have h' : VP P w' S (.tup _) v := h
     show VP P w' S (.tup _) v
     simp only [VP] at h' ⊢
     obtain ⟨vs, h1, h2⟩ := h'
     exact ⟨vs, h1, qzd h2⟩
   · exact ZzI (show VP P w' S _ v from h)
   · exact h
 · exact h
end
theorem YY {P : Program} {f : Nat} (n : Nat) (rs : List PK) (ts : List PK) (pre : List PV → Bool) (res : List PV → Res) (hm : P.follows .mixedOrders = true)
 (h : ∀ ps, YzV P ps → okPs ts ps = true → pre ps = true → ∃ (E : Env) (r : Res), E.P = P ∧ E.Ok ∧ (Qw rs (qy E n f (ym ts ps))).run = some r ∧ (r = res ps ∨ r.plain = res ps)) : Spec P f ⟨fun ps => okPs ts ps && pre ps, res⟩ := by
 intro w S ps vs hS hv hp
 have hp' : (okPs ts ps && pre ps) = true := hp
 simp only [Bool.and_eq_true] at hp'
 obtain ⟨E, r, rfl, h2, h3, h4⟩ := h ps ⟨w, S, vs, hv⟩ hp'.1 hp'.2
 rw [Yr hp'.1] at h3
 unfold Qw at h3
 obtain ⟨r0, h5, h6⟩ := Zu h3
 simp only [Tr.run, Option.some.injEq] at h6
 refine Calls.mono (yU h2 hm h5 hS hv) ?_
 rintro e w' ⟨v, g1, g2, g3⟩
 refine ⟨v, g1, g2, ?_⟩
 have g4 : ResRel E.P S w w' r v := by
  rw [← h6]
  exact g3.fit
 rcases h4 with rfl | h4
 · exact g4
 · show ResRel E.P S w w' (res ps) v
   rw [← h4]
   exact g4.plain hS
def Tr.static {α : Type} : List Bool → Tr α → Bool
 | [], _ => true
 | true :: l, .test true x _ => x.static l
 | false :: l, .test false _ y => y.static l
 | _, _ => false
theorem yy {α β : Type} {wrap : β → α} {o : Option β} : ∀ (l : List Bool) {t : Tr α}, t.static l = true → (t.sub l).run = o.map wrap → t.run = o.map wrap
 | [], _, _, h => h
 | true :: l, .test true x _, hs, h => yy l (t := x) hs h
 | false :: l, .test false _ y, hs, h => yy l (t := y) hs h
 | true :: _, .test false _ _, hs, _ => by cases hs
 | false :: _, .test true _ _, hs, _ => by cases hs
 | true :: _, .ret _, hs, _ => by cases hs
 | false :: _, .ret _, hs, _ => by cases hs
 | true :: _, .wait .., hs, _ => by cases hs
 | false :: _, .wait .., hs, _ => by cases hs
 | true :: _, .fail, hs, _ => by cases hs
 | false :: _, .fail, hs, _ => by cases hs
def zzt (E : Env) (n : Nat) (fn : Func) (f : Nat) (c : Code) (ps : List PV) : Tr Res :=
 (zu E n c { tmps := ps.map Qg, stack := [], mem := [], cur := 0, ctr := 1, fn := f }).bind fun r =>
   match r.1 with
   | .normal | .ret => (jr E fn r.2).bind fun v => match resEnd r.2.mem v with
     | some q => .ret q
     | none => .fail
   | _ => .fail
theorem ZS {E : Env} (hE : E.Ok) (hm : E.P.follows .mixedOrders = true) {n f : Nat} {fn : Func} {c : Code} {ps : List PV} {r : Res} (hr : (zzt E n fn f c ps).run = some r) {w : World} {S : Nat → Nat → Prop} {act : Act} {w0 : World} (hw0 : w0 = w) (hS : ∀ b o, S b o → b < w.heap.size) (hv : VPs E.P w S ps act.tmps.toList) (hd : act.defers = []) {R : Ending → World → Prop}
 (hR : ∀ v w', Below w.heap.size w w' → ResRel E.P S w w' r v → R (.returned v) w') (hcom : E.com = false := by first | rfl | kernel_rfl) : c.wp E.P (bodyPost E.P fn R) act w := by
 unfold zzt at hr
 obtain ⟨q, h1, h2⟩ := Zu hr
 clear hr
 let X : Out := ⟨w.heap.size, w, S, hS, Nat.le_refl _⟩
 have hS0 : Smut E.P S [] (fun _ => none) = S := by
  funext b o
  apply propext
  refine ⟨fun q => ?_, .inl⟩
  rcases q with q | ⟨id, ob, g, _⟩
  · exact q
  · cases g
 have hrel : Rel E.P X { tmps := ps.map Qg, stack := [], mem := [], cur := 0, ctr := 1, fn := f } (fun _ => none) (fun _ => 0) [] act.tmps.toList w := by
  refine ⟨Below.refl _ _, (fun id b q => by cases q), (fun i j b oi oj q => by cases q), (fun id ob q => by cases q), ?_, rfl, (fun i x vs q => by cases q)⟩
  refine VAs.of_get (by simp [hv.length]) fun i x u h3 h4 => ?_
  rw [List.getElem?_map] at h3
  obtain ⟨p, hp, rfl⟩ := Option.map_eq_some_iff.1 h3
  obtain ⟨u', h5, h6⟩ := hv.get hp
  rw [h4] at h5
  cases h5
  refine QB ?_
  show VP E.P w (Smut E.P S [] (fun _ => none)) p u
  rw [hS0]
  exact h6
 refine Qzm hE hm n hcom c _ q.1 q.2 (show _ = some (q.1, q.2) from h1) X (fun _ => none) (fun _ => 0) [] act w hrel hd _ ?_
 intro mu' ka' act' w' hrel' hd'
 have fin : ((jr E fn q.2).bind fun v => match resEnd q.2.mem v with
  | some q => Tr.ret q
  | none => .fail).run = some r → ∃ v, (results fn act'.tmps).run E.P w' = .ok v w' ∧ R (.returned v) w' := by
  intro h2
  obtain ⟨v, h3, h4⟩ := Zu h2
  obtain ⟨u, h5, h6⟩ := zn hrel' h3
  refine ⟨u, h5, hR u w' hrel'.bel ?_⟩
  cases hq : resEnd q.2.mem v with
  | none => rw [hq] at h4; simp [Tr.run] at h4
  | some r' =>
    rw [hq] at h4
    simp only [Tr.run, Option.some.injEq] at h4
    subst h4
    exact Rel.resEnd (X := X) hrel' rfl hq h6
 cases hq : q.1 <;> rw [hq] at h2 <;> simp only at h2
 · exact ⟨hd', fin h2⟩
 · simp [Tr.run] at h2
 · simp [Tr.run] at h2
 · exact ⟨hd', fin h2⟩
structure Hid (p : Prop) : Prop where
 out : p
theorem j8 {P : Program} {Q : Exit → Act → World → Prop} {act : Act} {w : World} {a b c : Code} (h : ∀ T, Hid (T = c) → (Code.seq a (Code.seq b T)).wp P Q act w) : (Code.seq a (Code.seq b c)).wp P Q act w := h c ⟨rfl⟩
theorem VPss.none {P : Program} {w : World} {S : Nat → Nat → Prop} {xs : List (List PV)} {us : List Value} {n : Nat} (h : VPss P w S xs us) (hn : ∀ e ∈ xs, e.length = n) (h0 : 0 < n) (hu : us = []) : xs = [] := by
 have := h.length hn
 rw [hu] at this
 have h2 : xs.length * n = 0 := by simpa using this.symm
 rcases Nat.mul_eq_zero.1 h2 with h3 | h3
 · exact List.length_eq_zero_iff.1 h3
 · omega
end Go.Proofs.YtgfnpgnfklcicaaGreatS
namespace Go.Proofs.YtgfnpgnfklcicaaGreatS
open Go Go.RowKit Go.ChangeShapes Go.WideShapes
mutual
def Wf : PV → Prop
 | .int k n => (Lit.int k n).wf = true
 | .bool _ => True
 | .str s => s.size ≤ maxLen
 | .list _ xs => xs.length ≤ maxLen ∧ Wfss xs
 | .agg cs => Wfs cs
 | _ => False
def Wfs : List PV → Prop
 | [] => True
 | c :: cs => Wf c ∧ Wfs cs
def Wfss : List (List PV) → Prop
 | [] => True
 | e :: xs => Wfs e ∧ Wfss xs
end
theorem Wfs.append : ∀ {as bs : List PV}, Wfs as → Wfs bs → Wfs (as ++ bs)
 | [], _, _, h => h
 | _ :: _, _, h, k => by
   simp only [Wfs] at h
   simp only [List.cons_append, Wfs]
   exact ⟨h.1, Wfs.append h.2 k⟩
theorem Wfss.snoc : ∀ {xs : List (List PV)} {e : List PV}, Wfss xs → Wfs e → Wfss (xs ++ [e])
 | [], _, _, k => ⟨k, trivial⟩
 | _ :: _, _, h, k => by
   simp only [Wfss] at h
   simp only [List.cons_append, Wfss]
   exact ⟨h.1, Wfss.snoc h.2 k⟩
theorem cfs.append : ∀ {ks ls : List K} {as bs : List PV}, cfs ks as → cfs ls bs → cfs (ks ++ ls) (as ++ bs)
 | [], _, [], _, _, h => h
 | _ :: _, _, _ :: _, _, h, k => ⟨h.1, cfs.append h.2 k⟩
 | [], _, _ :: _, _, h, _ => h.elim
 | _ :: _, _, [], _, h, _ => h.elim
theorem VPs.append {P : Program} {w : World} {S : Nat → Nat → Prop} : ∀ {as bs : List PV} {vs us : List Value}, VPs P w S as vs → VPs P w S bs us → VPs P w S (as ++ bs) (vs ++ us)
 | [], _, _, _, h, k => by
   simp only [VPs] at h
   subst h
   simpa using k
 | a :: as, _, _, _, h, k => by
   simp only [VPs] at h
   obtain ⟨u, us, rfl, h1, h2⟩ := h
   simp only [List.cons_append, VPs]
   exact ⟨u, _, rfl, h1, VPs.append h2 k⟩
theorem VPs.mk0 {P : Program} {w : World} {S : Nat → Nat → Prop} : VPs P w S [] [] := by simp only [VPs]
theorem VPs.mk {P : Program} {w : World} {S : Nat → Nat → Prop} {c : PV} {u : Value} {cs : List PV} {us : List Value} (h : VP P w S c u) (k : VPs P w S cs us) : VPs P w S (c :: cs) (u :: us) := by
 simp only [VPs]
 exact ⟨u, us, rfl, h, k⟩
def yzt (P : Program) (o : Nat → Bool) (kd : Nat → List K) (total : Nat) : List Field → Nat → Bool
 | [], off => off == total
 | f :: fs, off => f.offset == off && (o f.type && (P.cellsOf f.type == (kd f.type).length && yzt P o kd total fs (off + P.cellsOf f.type)))
def qzt (P : Program) : Nat → Nat → Bool
 | 0 => fun _ => false
 | n + 1 => fun t => match P.underlying t with
   | some (.int _) => true
   | some .bool => true
   | some .string => true
   | some (.slice e) => qzt P n e && (P.cellsOf e == (jy P e).length && decide (jj P n e = jy P e))
   | some (.struct fs) => yzt P (qzt P n) (jj P n) (P.cellsOf t) fs.toList 0
   | _ => false
theorem QzV {w : World} {base : Nat} {a : Addr} {n : Nat} {cs : List Value} (h : w.cells? base a n = some cs) : cs.length = n ∧ ∀ i u, cs[i]? = some u → w.cell? (a.add i) = some u := by
 unfold World.cells? at h
 split at h
 · have hl := mapM_some_length h
   rw [List.length_range] at hl
   refine ⟨hl, fun i u hu => ?_⟩
   have hi : i < n := by rw [← hl]; exact (List.getElem?_eq_some_iff.1 hu).1
   have := mapM_some_get h i i (by simp [hi])
   rw [this, hu]
 · cases h
abbrev No : Nat → Nat → Prop := fun _ _ => False
section
variable {P : Program}
theorem qU {n : Nat} (ih : ∀ t, qzt P n t = true → ∀ (H : Type) (enc : TypeId × Value → H) (w : World) (base : Nat) (spare : Nat → Bool) (held : Bool) (fuel : Nat) (cs : List Value) (x : DataW H × List MemPlace), DataW.trod enc P w base spare held fuel t cs = some x → ∃ ps, VPs P w No ps cs ∧ cfs (jj P n t) ps ∧ Wfs ps)
 (H : Type) (enc : TypeId × Value → H) (w : World) (base : Nat) (spare : Nat → Bool) (held : Bool) (fuel : Nat) (cs : List Value) (total : Nat) (hl : cs.length = total) :
 ∀ (fs : List Field) (off : Nat), yzt P (qzt P n) (jj P n) total fs off = true → (∀ f ∈ fs, ∃ y : DataW H × List MemPlace, DataW.trod enc P w base spare held fuel f.type ((cs.drop f.offset).take (P.cellsOf f.type)) = some y) →
  ∃ ps, VPs P w No ps (cs.drop off) ∧ cfs (fs.flatMap fun f => jj P n f.type) ps ∧ Wfs ps
 | [], off, h, _ => by
   have h' : off = total := by simpa [yzt] using h
   refine ⟨[], ?_, trivial, trivial⟩
   rw [List.drop_of_length_le (by omega)]
   simp only [VPs]
 | f :: fs, off, h, hf => by
   simp only [yzt, Bool.and_eq_true, beq_iff_eq] at h
   obtain ⟨h1, h2, h3, h4⟩ := h
   obtain ⟨y, hy⟩ := hf f (by simp)
   obtain ⟨ps, g1, g2, g3⟩ := ih f.type h2 H enc w base spare held fuel _ _ hy
   obtain ⟨qs, k1, k2, k3⟩ := qU ih H enc w base spare held fuel cs total hl fs (off + P.cellsOf f.type) h4 (fun g hg => hf g (by simp [hg]))
   refine ⟨ps ++ qs, ?_, ?_, g3.append k3⟩
   · rw [h1] at g1
     have := g1.append k1
     rwa [← List.drop_drop, List.take_append_drop] at this
   · rw [List.flatMap_cons]
     exact g2.append k2
theorem opened : ∀ (n t : Nat), qzt P n t = true → ∀ (H : Type) (enc : TypeId × Value → H) (w : World) (base : Nat) (spare : Nat → Bool) (held : Bool) (fuel : Nat) (cs : List Value) (x : DataW H × List MemPlace),
 DataW.trod enc P w base spare held fuel t cs = some x → ∃ ps, VPs P w No ps cs ∧ cfs (jj P n t) ps ∧ Wfs ps
 | 0, t, h => by cases h
 | n + 1, t, h => by
   intro H enc w base spare held fuel cs x hx
   simp only [qzt] at h
   split at h
   · rename_i k ht
     obtain ⟨m, rfl, _, hw⟩ := DataW.trod_int ht hx
     refine ⟨[.int k m], ?_, ?_, ?_⟩
     · simp [VPs, VP]
     · simp only [jj, ht]
       exact ⟨⟨m, rfl⟩, trivial⟩
     · simp only [Wfs, Wf]
       exact ⟨hw, trivial⟩
   · rename_i ht
     obtain ⟨b, rfl, _⟩ := DataW.trod_bool ht hx
     refine ⟨[.bool b], ?_, ?_, ?_⟩
     · simp [VPs, VP]
     · simp only [jj, ht]
       exact ⟨⟨b, rfl⟩, trivial⟩
     · simp [Wfs, Wf]
   · rename_i ht
     obtain ⟨s, rfl, _, hs⟩ := DataW.trod_string ht hx
     refine ⟨[.str s], ?_, ?_, ?_⟩
     · simp [VPs, VP]
     · simp only [jj, ht]
       exact ⟨⟨s, rfl⟩, trivial⟩
     · simp only [Wfs, Wf]
       exact ⟨hs, trivial⟩
   · rename_i e ht
     simp only [Bool.and_eq_true, beq_iff_eq, decide_eq_true_eq] at h
     obtain ⟨ho, hc, hk⟩ := h
     have kin : jj P (n + 1) t = [.list e] := by simp only [jj, ht]
     rw [kin]
     rcases Go.Deep.open_slice ht hx with ⟨rfl, _⟩ | ⟨a, len, cap, m, q, D, Pl, rfl, hb, hl, hm, hmm, _, hcell⟩
     · refine ⟨[.list e []], ?_, ⟨⟨[], rfl⟩, trivial⟩, ?_⟩
       · simp only [VPs, VP]
         exact ⟨_, [], rfl, ⟨none, 0, [], rfl, Nat.le_refl _, fun _ h => (by cases h), .inl rfl, rfl⟩, rfl⟩
       · simp [Wfs, Wf, Wfss]
     · have hlm : len ≤ m := by rw [hmm]; split <;> omega
       have key : ∀ k, k ≤ len → ∃ (xs : List (List PV)) (us : List Value), xs.length = k ∧ us.length = k * (jy P e).length ∧ (∀ e' ∈ xs, cfs (jy P e) e') ∧ Wfss xs ∧ VPss P w No xs us ∧ ∀ j v, us[j]? = some v → w.cell? (a.add j) = some v := by
        intro k
        induction k with
        | zero => exact fun _ => ⟨[], [], rfl, by simp, fun e' he => (by cases he), trivial, rfl, fun j v hv => (by simp at hv)⟩
        | succ k ihk =>
          intro hk'
          obtain ⟨xs, us, hx1, hu, hcf, hw, hv, hr⟩ := ihk (by omega)
          obtain ⟨cs', hcs, htr⟩ := hcell k (by omega)
          obtain ⟨ps, g1, g2, g3⟩ := opened n e ho H enc w base spare held q cs' _ htr
          rw [hk] at g2
          obtain ⟨h1, h2⟩ := QzV hcs
          refine ⟨xs ++ [ps], us ++ cs', by simp [hx1], ?_, ?_, hw.snoc g3, hv.append (show VPss P w No [ps] cs' from ⟨cs', [], by simp, g1, rfl⟩), ?_⟩
          · rw [List.length_append, hu, h1, hc, Nat.succ_mul]
          · intro e' he
            rcases List.mem_append.1 he with he | he
            · exact hcf e' he
            · rw [List.mem_singleton.1 he]
              exact g2
          · intro j v hv'
            rcases Nat.lt_or_ge j us.length with hj | hj
            · rw [List.getElem?_append_left hj] at hv'
              exact hr j v hv'
            · rw [List.getElem?_append_right hj] at hv'
              have := h2 _ _ hv'
              rw [Go.Deep.add_add, hc, ← hu] at this
              rwa [Nat.add_sub_cancel' hj] at this
       obtain ⟨xs, us, hx1, hu, hcf, hw, hv, hr⟩ := key len (Nat.le_refl _)
       refine ⟨[.list e xs], ?_, ⟨⟨xs, rfl⟩, trivial⟩, ?_⟩
       · simp only [VPs, VP]
         refine ⟨_, [], rfl, ⟨some a, cap, us, by rw [hx1], by rw [hx1]; exact hl, hcf, ?_, hv⟩, rfl⟩
         cases hus : us with
         | nil => exact .inl rfl
         | cons u us' =>
           right
           have h0 := hr 0 u (by rw [hus]; rfl)
           obtain ⟨b, o, sp⟩ := a
           have hsp : sp = none := by
            cases sp with
            | none => rfl
            | some s =>
              exfalso
              unfold Addr.add at h0
              simp only at h0
              split at h0 <;> simp_all [World.cell?] <;> (split at h0 <;> simp_all)
           subst hsp
           refine ⟨b, o, rfl, fun j v hv' => ?_, fun _ _ h => h⟩
           rw [← hus] at hv'
           have := hr j v hv'
           rwa [Addr.add_mid] at this
       · simp only [Wfs, Wf]
         refine ⟨⟨by rw [hx1]; omega, hw⟩, trivial⟩
   · rename_i fs ht
     obtain ⟨xs, q, _, _, hl, hn, hf⟩ := DataW.trod_struct ht hx
     have := qU (fun t h => opened n t h) H enc w base spare held q cs (P.cellsOf t) hl fs.toList 0 h (fun f hm => by
      obtain ⟨i, hi, rfl⟩ := List.getElem_of_mem hm
      have hi' : i < fs.size := by simpa using hi
      have := hf i fs[i] (by simp [hi'])
      rw [List.getElem?_eq_getElem (by omega)] at this
      exact ⟨_, by simpa using this⟩)
     simp only [jj, ht]
     simpa using this
   · cases h
theorem jyQ {t : Nat} {fs : Array Field} {r : Reach} {b0 : Nat} {H : Type} {enc : TypeId × Value → H} {w : World} {base : Nat} {spare : Nat → Bool} {held : Bool} {v : Value} {y : DataW H} {pl : List MemPlace}
 (h : qzt P 20 t = true) (hs : P.underlying t = some (.struct fs)) (hv : Value.okWide P w r b0 t v) (hd : DataW.Trod enc P w base spare held t v y pl) : ∃ ps, VP P w No (.agg ps) v ∧ cfs (jy P t) ps ∧ Wf (.agg ps) := by
 obtain ⟨cs, rfl, hsz⟩ := okWide_struct hs hv
 obtain ⟨fuel, hf⟩ := hd
 obtain ⟨ps, h1, h2, h3⟩ := opened 20 t h H enc w base spare held fuel _ _ hf
 refine ⟨ps, ?_, h2, by simpa only [Wf] using h3⟩
 simp only [VP]
 exact ⟨cs.toList, by simp, by simpa [Value.cells] using h1⟩
theorem ZyQ {t : Nat} {k : K} {H : Type} {enc : TypeId × Value → H} {w : World} {base : Nat} {spare : Nat → Bool} {held : Bool} {v : Value} {y : DataW H} {pl : List MemPlace}
 (h : qzt P 20 t = true) (hk : jy P t = [k]) (hv : v.cells = #[v]) (hd : DataW.Trod enc P w base spare held t v y pl) : ∃ p, VP P w No p v ∧ cf k p ∧ Wf p := by
 obtain ⟨fuel, hf⟩ := hd
 rw [hv] at hf
 obtain ⟨ps, h1, h2, h3⟩ := opened 20 t h H enc w base spare held fuel _ _ hf
 have h2' : cfs (jy P t) ps := h2
 rw [hk] at h2'
 match ps, h1, h2', h3 with
 | [p], h1, h2, h3 =>
   simp only [VPs] at h1
   obtain ⟨u, us, h4, h5, rfl⟩ := h1
   obtain ⟨rfl, _⟩ := List.cons.inj h4
   simp only [Wfs] at h3
   exact ⟨p, h5, h2.1, h3.1⟩
 | [], _, h2, _ => exact h2.elim
 | _ :: _ :: _, _, h2, _ => exact h2.2.elim
theorem JyP {E : Env} (hE : E.Ok) (hm : E.P.follows .mixedOrders = true) {n f : Nat} {ps : List PV} (hr : (qy E n f ps).run = some (.pv (.bool true))) {w : World} {vs : List Value} (hv : VPs E.P w No ps vs) :
 Calls E.P f vs.toArray w fun e w' => e = .returned (.bool true) ∧ Below w.heap.size w w' := by
 refine Calls.mono (yU hE hm hr (S := No) (fun _ _ h => h.elim) hv) ?_
 rintro e w' ⟨v, rfl, h2, h3⟩
 have h3' : VP E.P w' No (.bool true) v := h3
 simp only [VP] at h3'
 exact ⟨by rw [h3'], h2⟩
end
end Go.Proofs.YtgfnpgnfklcicaaGreatS
namespace Go.Proofs.YtgfnpgnfklcicaaGreatS
open Go Go.RowKit
theorem JN {α : Type} {b : Bool} {x y z : α} (h1 : b = true → x = z) (h2 : b = false → y = z) : (bif b then x else y) = z := by
 cases b
 · exact h2 rfl
 · exact h1 rfl
theorem run_test {α : Type} {b : Bool} {x y : Tr α} {z : Option α} (h1 : b = true → x.run = z) (h2 : b = false → y.run = z) : (Tr.test b x y).run = z := by
 cases b
 · exact h2 rfl
 · exact h1 rfl
theorem zz {α : Type} {b : Bool} {x y : Tr α} {z : Option α} (hb : b = true) (h1 : x.run = z) : (Tr.test b x y).run = z := by
 subst hb
 exact h1
theorem yz {α : Type} {b : Bool} {x y : Tr α} {z : Option α} (hb : b = false) (h1 : y.run = z) : (Tr.test b x y).run = z := by
 subst hb
 exact h1
def Tr.whole {α : Type} : Tr α → Bool
 | .ret _ => true
 | .test _ x y => x.whole && y.whole
 | _ => false
theorem Tr.whole_some {α : Type} : ∀ {t : Tr α}, t.whole = true → t.run.isSome = true
 | .ret _, _ => rfl
 | .test b x y, h => by
   simp only [Tr.whole, Bool.and_eq_true] at h
   cases b
   · exact Tr.whole_some (t := y) h.2
   · exact Tr.whole_some (t := x) h.1
theorem YzI {α : Type} {o : Option α} (d : α) (h : o.isSome = true) : o = some (o.getD d) := by
 cases o with
 | none => cases h
 | some x => rfl
def St.plain (f : Nat) (ps : List PV) : St := { tmps := ps.map Qg, stack := [], mem := [], cur := 0, ctr := 1, fn := f }
def St.own (f : Nat) (ps : List PV) (id d t : Nat) (xs : List (List PV)) : St := { tmps := (ps.map Qg).set d (.own id), stack := [], mem := [(id, .row 2 t xs)], cur := 0, ctr := 1, fn := f }
def za (w : World) (S : Nat → Nat → Prop) (hS : ∀ b o, S b o → b < w.heap.size) : Out := ⟨w.heap.size, w, S, hS, Nat.le_refl _⟩
section
variable {P : Program}
theorem Y0 (S : Nat → Nat → Prop) : Smut P S [] (fun _ => none) = S := by
 funext b o
 apply propext
 refine ⟨fun q => ?_, .inl⟩
 rcases q with q | ⟨id, ob, g, _⟩
 · exact q
 · cases g
theorem qI {f : Nat} {ps : List PV} {w : World} {S : Nat → Nat → Prop} (hS : ∀ b o, S b o → b < w.heap.size) {a : List Value} (hv : VPs P w S ps a) : Rel P (za w S hS) (St.plain f ps) (fun _ => none) (fun _ => 0) [] a w := by
 refine ⟨Below.refl _ _, (fun id b q => by cases q), (fun i j b oi oj q => by cases q), (fun id ob q => by cases q), ?_, rfl, (fun i x vs q => by cases q)⟩
 refine VAs.of_get (by simp [St.plain, hv.length]) fun i x u h3 h4 => ?_
 have h3' : (ps.map Qg)[i]? = some x := h3
 rw [List.getElem?_map] at h3'
 obtain ⟨p, hp, rfl⟩ := Option.map_eq_some_iff.1 h3'
 obtain ⟨u', h5, h6⟩ := hv.get hp
 rw [h4] at h5
 cases h5
 refine QB ?_
 show VP P w (Smut P S [] (fun _ => none)) p u
 rw [Y0]
 exact h6
theorem QzI {f id d t : Nat} {ps : List PV} {xs : List (List PV)} {w w1 : World} {S : Nat → Nat → Prop} (hS : ∀ b o, S b o → b < w.heap.size) {a : List Value} {u : Value} (hv : VPs P w S ps a) (hb : Below w.heap.size w w1) (hr : ResRel P S w w1 (.fresh t xs) u) :
 ∃ mu ka, Rel P (za w S hS) (St.own f ps id d t xs) mu ka [] (a.set d u) w1 := by
 have h0 := qI (f := f) hS hv
 obtain ⟨r1, r2, r3⟩ := hr
 have hf : Zz id (St.plain f ps).mem = none := rfl
 rcases r3 with ⟨b, k, rfl, hfresh⟩ | ⟨rfl, A, rfl⟩
 · have hfresh' : Fresh P (Smut P (za w S hS).S0 (St.plain f ps).mem (fun _ => none)) w w1 t b k xs := by
    show Fresh P (Smut P S [] (fun _ => none)) w w1 t b k xs
    rw [Y0]
    exact hfresh
   obtain ⟨mu', ka', k1, k2, k3, k4⟩ := h0.adopt hb hf hfresh' r1 r2
   exact ⟨mu', ka', k4.put (some d) (JK k1 k2)⟩
 · obtain ⟨n1, n2⟩ := h0.grow hb
   obtain ⟨m1, m2, m3⟩ := n2.newNil (id := id) (m := 2) (t := t) hf r2
   exact ⟨_, _, m3.put (some d) (Qzf m1 A)⟩
end
def Zc (E : Env) (n : Nat) (fn : Func) (c : Code) (s : St) : Tr Res :=
 (zu E n c s).bind fun r =>
   match r.1 with
   | .normal | .ret => (jr E fn r.2).bind fun v => match resEnd r.2.mem v with
     | some q => .ret q
     | none => .fail
   | _ => .fail
theorem JzI {b : Frame} {E : Env} (hfb : E.fits b) (hE : E.Ok) (hm : E.P.follows .mixedOrders = true) {n : Nat} {fn : Func} {c : Code} {s : St} {r : Res} (hr : (Zc E n fn c s).run = some r) {w w1 : World} {S : Nat → Nat → Prop} (hS : ∀ b o, S b o → b < w.heap.size) {act : Act} {mu : Nat → Option Nat} {ka : Nat → Nat}
 (h : Rel E.P (za w S hS) s mu ka [] act.tmps.toList w1) (hd : act.defers = []) {R : Ending → World → Prop}
 (hR : ∀ v w', Below w.heap.size w w' → ResRel E.P S w w' r v → R (.returned v) w') : yn b E.P c (bodyPost E.P fn R) act w1 := by
 unfold Zc at hr
 obtain ⟨q, h1, h2⟩ := Zu hr
 clear hr
 refine ji hE hm n b hfb c _ q.1 q.2 (show _ = some (q.1, q.2) from h1) (za w S hS) mu ka [] act w1 h hd _ ?_
 intro mu' ka' act' w' hrel' hd'
 have fin : ((jr E fn q.2).bind fun v => match resEnd q.2.mem v with
  | some q => Tr.ret q
  | none => .fail).run = some r → ∃ v, (results fn act'.tmps).run E.P w' = .ok v w' ∧ R (.returned v) w' := by
  intro h2
  obtain ⟨v, h3, h4⟩ := Zu h2
  obtain ⟨u, h5, h6⟩ := zn hrel' h3
  refine ⟨u, h5, hR u w' hrel'.bel ?_⟩
  cases hq : resEnd q.2.mem v with
  | none => rw [hq] at h4; simp [Tr.run] at h4
  | some r' =>
    rw [hq] at h4
    simp only [Tr.run, Option.some.injEq] at h4
    subst h4
    exact Rel.resEnd (X := za w S hS) hrel' rfl hq h6
 cases hq : q.1 <;> rw [hq] at h2 <;> simp only at h2
 · exact ⟨hd', fin h2⟩
 · simp [Tr.run] at h2
 · simp [Tr.run] at h2
 · exact ⟨hd', fin h2⟩
theorem Q0 {E : Env} (hE : E.Ok) (hm : E.P.follows .mixedOrders = true) {n : Nat} {fn : Func} {c : Code} {s : St} {r : Res} (hr : (Zc E n fn c s).run = some r) {w w1 : World} {S : Nat → Nat → Prop} (hS : ∀ b o, S b o → b < w.heap.size) {act : Act} {mu : Nat → Option Nat} {ka : Nat → Nat}
 (h : Rel E.P (za w S hS) s mu ka [] act.tmps.toList w1) (hd : act.defers = []) {R : Ending → World → Prop}
 (hR : ∀ v w', Below w.heap.size w w' → ResRel E.P S w w' r v → R (.returned v) w') (hcom : E.com = false := by first | rfl | kernel_rfl) : c.wp E.P (bodyPost E.P fn R) act w1 :=
 Jzf fun b => JzI (fun q => by rw [hcom] at q; cases q) hE hm hr hS h hd hR
def Code.fst : Code → Code
 | .seq a _ => a
 | c => c
def Code.snd : Code → Code
 | .seq _ b => b
 | c => c
def Func.code (fn : Func) : Code := match fn.body with
 | some c => c
 | none => .skip
theorem YQ {P : Program} (S : Nat → Nat → Prop) (mu : Nat → Option Nat) : Smut P S [] mu = S := by
 funext b o
 apply propext
 refine ⟨fun q => ?_, .inl⟩
 rcases q with q | ⟨id, ob, g, _⟩
 · exact q
 · cases g
theorem jzt {P : Program} {Q : Exit → Act → World → Prop} {act : Act} {w : World} {a b c d : Code} (h : ∀ T, Hid (T = c) → ∀ D, Hid (D = d) → (Code.seq a (Code.seq b (Code.seq T D))).wp P Q act w) : (Code.seq a (Code.seq b (Code.seq c d))).wp P Q act w := h c ⟨rfl⟩ d ⟨rfl⟩
theorem Zzt {P : Program} {Q : Exit → Act → World → Prop} {act : Act} {w : World} {a b D : Code} (hD : D = Code.seq a b) (h : ∀ T, Hid (T = b) → (Code.seq a T).wp P Q act w) : D.wp P Q act w := by
 subst hD
 exact h b ⟨rfl⟩
theorem yW {E : Env} (hE : E.Ok) {ops : Array Oper} {Q : Exit → Act → World → Prop} {o : Oper} {rest : List Oper} {a : Act} {w : World} {cl : Call} {f : Nat} {fn : Func} {fo : Operand} {first cap args : Array Value} {R : Ending → World → Prop}
 (hg : o.guard = none) (ho : o.op = .call cl) (hc : cl.callee = .value fo) (hv : a.eval fo = .func (.func f) first cap) (hf : E.P.funcs[f]? = some fn) (hb : fn.body.isSome = true) (hargs : first ++ cl.args.map a.eval ++ cap = args)
 (hcalls : Calls E.P f args w R) (hret : ∀ e w', R e w' → ∃ v, e = .returned v) (h : ∀ v w', R (.returned v) w' → wpList E.P ops Q rest (a.put o.dst v) w') : wpList E.P ops Q (o :: rest) a w := by
 refine wpList_plain hg fun K hK => ?_
 unfold Oper.wp
 rw [jY hE ho hc hv hf hb, Oper.upon_enter, hargs]
 refine Calls.mono hcalls ?_
 intro e w' hr
 obtain ⟨v, rfl⟩ := hret e w' hr
 exact hK _ _ (h v w' hr)
def still : Op → Bool
 | .load .. | .makeFunc .. | .move _ | .assign _ | .fieldAddr .. | .extract .. => true
 | _ => false
def mapT (P : Program) (t : Nat) : Bool :=
 match P.underlying t with
 | some (.map k e) => match P.underlying k, P.underlying e with
   | some (.int .i64), some (.func ..) => match P.info? e with
     | some d => match d.zero with
       | some .nilFunc => true
       | _ => false
     | none => false
   | _, _ => false
 | _ => false
def seek (n : Int) : List (Int × AV) → Tr (AV × Bool)
 | [] => .ret (.pv .nilfn, false)
 | x :: l => .test (n == x.1) (.ret (x.2, true)) (seek n l)
def Z8 (dst : Option Nat) (hd : List Nat) : List Nat := match dst with
 | some d => hd.filter fun m => !(m == d)
 | none => hd
def evM (E : Env) (ops : Array Oper) : List Nat → St → List (Int × AV) → List Nat → Tr (St × List (Int × AV) × List Nat)
 | [], s, kv, hd => .ret (s, kv, hd)
 | i :: l, s, kv, hd => match ops[i]? with
   | none => .fail
   | some o => match o.guard with
     | some _ => .fail
     | none =>
       let plain : Tr (St × List (Int × AV) × List Nat) := match still o.op with
        | false => .fail
        | true => ((evOp E s.cur o).run s.view []).bind fun r => match r.1.2 with
          | [] => evM E ops l (s.put o.dst r.1.1) kv (Z8 o.dst hd)
          | _ :: _ => .fail
       match o.op with
       | .insert t (.tmp m) (.const (.int .i64 k)) x => match hd.contains m && (mapT E.P t && kv.all fun y => !(y.1 == k)) with
         | true => ((rdO x).run s.view []).bind fun v => evM E ops l (s.put o.dst (.tup [])) (kv ++ [(k, v.1)]) (Z8 o.dst hd)
         | false => .fail
       | .lookup t (.tmp m) x true => match hd.contains m && mapT E.P t with
         | true => ((rdO x).run s.view []).bind fun v => match v.1 with
           | .pv (.int .i64 n) => (seek n kv).bind fun r => evM E ops l (s.put o.dst (.tup [r.1, .pv (.bool r.2)])) kv (Z8 o.dst hd)
           | _ => .fail
         | false => .fail
       | .move (.tmp m) => match hd.contains m, o.dst with
         | true, some d => match decide (d < s.tmps.length) with
           | true => evM E ops l (s.put (some d) (.pv .undef)) kv (d :: Z8 (some d) hd)
           | false => .fail
         | true, none => .fail
         | false, _ => plain
       | .assign (.tmp m) => match hd.contains m, o.dst with
         | true, some d => match decide (d < s.tmps.length) with
           | true => evM E ops l (s.put (some d) (.pv .undef)) kv (d :: Z8 (some d) hd)
           | false => .fail
         | true, none => .fail
         | false, _ => plain
       | _ => plain
def zzH (E : Env) (ops : Array Oper) (s : St) : Tr (St × List (Int × AV) × List Nat) :=
 match ops[0]? with
 | some o => match o.guard, o.op, o.dst with
   | none, .makeMap t none, some d => match decide (d < s.tmps.length) with
     | true => evM E ops ((List.range ops.size).drop 1) (s.put (some d) (.pv .undef)) [] [d]
     | false => .fail
   | _, _, _ => .fail
 | none => .fail
def jzd (E : Env) (n f : Nat) (args : List PV) : Tr Res :=
 match E.P.funcs[f]? with
 | some fn => match fn.body with
   | some (.seq a (.seq b (.seq (.region _ m false) (.seq (.region _ l false) rest)))) =>
     (zu E n a { tmps := args.map Qg ++ List.replicate (fn.ntmps - args.length) (.tup []), stack := [], mem := [], cur := 0, ctr := 1, fn := f }).bind fun ra => match ra.1 with
       | .normal => (zu E n b ra.2).bind fun rb => match rb.1 with
         | .normal => (zzH E m rb.2).bind fun x => (evM E l (List.range l.size) x.1 x.2.1 x.2.2).bind fun y => Zc E n fn rest y.1
         | _ => .fail
       | _ => .fail
   | _ => .fail
 | none => .fail
section
variable {P : Program} {X : Out} {s : St} {mu : Nat → Option Nat} {ka : Nat → Nat} {cst : List (List Value)} {act : Act} {a : List Value} {w : World} {E : Env} {fr : Nat} {o : Oper} {p : AV × List Eff} {K : Act → World → Prop} {Q : Exit → Act → World → Prop} {ops : Array Oper}
def Ents (P : Program) (c : Cx) : List (Int × AV) → List MapEntry → Prop
 | [], es => es = []
 | x :: kv, es => ∃ e l, es = e :: l ∧ e.key = .int .i64 x.1 ∧ VA P c x.2 e.val ∧ Ents P c kv l
theorem Ents.le {c c' : Cx} (k : c.Le c') : ∀ {kv : List (Int × AV)} {es : List MapEntry}, Ents P c kv es → Ents P c' kv es
 | [], _, h => h
 | x :: kv, _, h => by
   obtain ⟨e, l, rfl, h1, h2, h3⟩ := h
   exact ⟨e, l, rfl, h1, VA.le k _ _ h2, h3.le k⟩
theorem Ents.snoc {c : Cx} {k : Int} {v : AV} {e : MapEntry} (hk : e.key = .int .i64 k) (hv : VA P c v e.val) : ∀ {kv : List (Int × AV)} {es : List MapEntry}, Ents P c kv es → Ents P c (kv ++ [(k, v)]) (es ++ [e])
 | [], _, h => by
   have h' : _ = [] := h
   subst h'
   exact ⟨e, [], rfl, hk, hv, rfl⟩
 | x :: kv, _, h => by
   obtain ⟨e', l, rfl, h1, h2, h3⟩ := h
   exact ⟨e', l ++ [e], rfl, h1, h2, h3.snoc hk hv⟩
theorem Ents.miss {c : Cx} {k : Int} : ∀ {kv : List (Int × AV)} {es : List MapEntry} (i : Nat), Ents P c kv es → (kv.all fun y => !(y.1 == k)) = true → Instr.findNow (.int .i64) (.int .i64 k) es i = some none
 | [], _, i, h, _ => by
   have h' : _ = [] := h
   subst h'
   rfl
 | x :: kv, _, i, h, ha => by
   obtain ⟨e, l, rfl, h1, h2, h3⟩ := h
   simp only [List.all_cons, Bool.and_eq_true, Bool.not_eq_true', beq_eq_false_iff_ne] at ha
   have hb : (k == x.1) = false := by simpa using fun q => ha.1 q.symm
   simp only [Instr.findNow, h1, Instr.sameNow, if_true, hb]
   exact h3.miss (i + 1) (by simpa using ha.2)
theorem Ents.seek {c : Cx} {n : Int} : ∀ {kv : List (Int × AV)} {es : List MapEntry} {r : AV × Bool} (i : Nat), Ents P c kv es → (Go.Proofs.YtgfnpgnfklcicaaGreatS.seek n kv).run = some r →
 (r = (.pv .nilfn, false) ∧ Instr.findNow (.int .i64) (.int .i64 n) es i = some none) ∨ ∃ j v, r.2 = true ∧ VA P c r.1 v ∧ Instr.findNow (.int .i64) (.int .i64 n) es i = some (some (j, v))
 | [], _, r, i, h, hr => by
   have h' : _ = [] := h
   subst h'
   simp only [Go.Proofs.YtgfnpgnfklcicaaGreatS.seek, Tr.run, Option.some.injEq] at hr
   exact .inl ⟨hr.symm, rfl⟩
 | x :: kv, _, r, i, h, hr => by
   obtain ⟨e, l, rfl, h1, h2, h3⟩ := h
   simp only [Go.Proofs.YtgfnpgnfklcicaaGreatS.seek, Tr.run] at hr
   simp only [Instr.findNow, h1, Instr.sameNow, if_true]
   cases hb : (n == x.1) with
   | true =>
     rw [hb] at hr
     simp only [cond_true, Option.some.injEq] at hr
     subst hr
     exact .inr ⟨i, e.val, rfl, h2, rfl⟩
   | false =>
     rw [hb] at hr
     exact h3.seek (i + 1) hr
structure MapAt (P : Program) (X : Out) (s : St) (mu : Nat → Option Nat) (ka : Nat → Nat) (act : Act) (w : World) (b : Nat) (kv : List (Int × AV)) (hd : List Nat) : Prop where
 low : X.B ≤ b
 off : ∀ id ob, mu id = some b → Zz id s.mem = some ob → ¬ live ob
 at_ : ∃ es clock, w.heap[b]? = some (.map es clock) ∧ Ents P (cx P X s.mem mu ka w) kv es.toList
 held : ∀ m ∈ hd, act.eval (.tmp m) = .map (some b)
theorem Zzd (act : Act) (d : Nat) (u : Value) (m : Nat) : (act.put (some d) u).eval (.tmp m) = if d = m ∧ d < act.tmps.size then u else act.eval (.tmp m) := by
 simp only [Y5, Act.put]
 by_cases e : d = m
 · subst e
   by_cases h : d < act.tmps.size
   · simp [h]
   · simp [h]
 · simp [e]
theorem MapAt.put {b : Nat} {kv : List (Int × AV)} {hd : List Nat} (h : MapAt P X s mu ka act w b kv hd) (dst : Option Nat) (u : Value) (v : AV) : MapAt P X (s.put dst v) mu ka (act.put dst u) w b kv (Z8 dst hd) := by
 have e : (s.put dst v).mem = s.mem := by cases dst <;> rfl
 refine ⟨h.low, by rw [e]; exact h.off, by rw [e]; exact h.at_, fun m hm => ?_⟩
 cases dst with
 | none => exact h.held m hm
 | some d =>
   have hm' := List.mem_filter.1 hm
   have hne : ¬ d = m := by
    have := hm'.2
    simp at this
    exact fun q => this q.symm
   rw [Zzd, if_neg (fun q => hne q.1)]
   exact h.held m hm'.1
theorem MapAt.hold {b : Nat} {kv : List (Int × AV)} {hd : List Nat} {d : Nat} {v : AV} (h : MapAt P X s mu ka act w b kv hd) (hl : d < act.tmps.size) : MapAt P X (s.put (some d) v) mu ka (act.put (some d) (.map (some b))) w b kv (d :: Z8 (some d) hd) := by
 have h1 := h.put (some d) (.map (some b)) v
 refine ⟨h1.low, h1.off, h1.at_, fun m hm => ?_⟩
 rcases List.mem_cons.1 hm with rfl | hm
 · rw [Zzd, if_pos ⟨rfl, hl⟩]
 · exact h1.held m hm
theorem Rel.remap (h : Rel P X s mu ka cst a w) {b : Nat} {es : Array MapEntry} {clock : Nat} (hb : w.heap[b]? = some (.map es clock)) (hlow : X.B ≤ b) (hoff : ∀ id ob, mu id = some b → Zz id s.mem = some ob → ¬ live ob) (es' : Array MapEntry) (clock' : Nat) :
 (cx P X s.mem mu ka w).Le (cx P X s.mem mu ka { w with heap := w.heap.setIfInBounds b (.map es' clock') }) ∧ Rel P X s mu ka cst a { w with heap := w.heap.setIfInBounds b (.map es' clock') } := by
 obtain ⟨g1, g2⟩ := MapKept.heap_set (o' := .map es' clock') hb
 have hl : (cx P X s.mem mu ka w).Le (cx P X s.mem mu ka { w with heap := w.heap.setIfInBounds b (.map es' clock') }) := by
  refine ⟨fun b1 o u hc hs => ⟨?_, hs⟩, fun i x q => q, fun i x q => ⟨q, rfl, rfl⟩⟩
  have hne : b1 ≠ b := by
   rintro rfl
   have hc' : w.cell? ⟨b1, o, none⟩ = some u := hc
   unfold World.cell? at hc'
   rw [hb] at hc'
   cases hc'
  have := World.cell?_of_block (w := w) (w' := { w with heap := w.heap.setIfInBounds b (.map es' clock') }) (a := ⟨b1, o, none⟩) (g2 b1 hne)
  exact this.trans hc
 refine ⟨hl, h.turn hl ?_ h.blk h.inj ?_⟩
 · have hb' := h.bel
   refine ⟨hb'.os, hb'.tape, hb'.output, ?_, fun k hk => ?_⟩
   · show X.w0.heap.size ≤ (w.heap.setIfInBounds b (.map es' clock')).size
     rw [Array.size_setIfInBounds]
     exact hb'.size
   · exact (g2 k (by omega)).trans (hb'.block k hk)
 · intro i ob hi
   rcases h.obs i ob hi with ⟨b1, hb1, ho⟩ | q
   · refine .inl ⟨b1, hb1, ho.le hl fun hlive => g2 b1 ?_⟩
     rintro rfl
     exact hoff i ob hb1 hi hlive
   · exact .inr q
theorem zzl (h : Rel E.P X s mu ka cst act.tmps.toList w) (hs : still o.op = true) {r : AV} (hp : (evOp E fr o).val s.view = some (r, [])) : ∃ u, (execOp act.eval o).run E.P w = .ok (.value u) w ∧ VA E.P (cx E.P X s.mem mu ka w) r u := by
 cases ho : o.op <;> rw [ho] at hs <;> simp only [still, Bool.false_eq_true] at hs
 case move x =>
  simp only [evOp, ho] at hp
  obtain ⟨v, h1, h2⟩ := val_bind hp
  cases Zx h2
  exact ⟨_, by simp [execOp, ho], h.op h1⟩
 case assign x =>
  simp only [evOp, ho] at hp
  obtain ⟨v, h1, h2⟩ := val_bind hp
  cases Zx h2
  exact ⟨_, by simp [execOp, ho], h.op h1⟩
 case load t x =>
  simp only [evOp, ho] at hp
  obtain ⟨v, h1, hp⟩ := val_bind hp
  obtain ⟨g1, u, g2, g3⟩ := yS h hp (h.op h1)
  exact ⟨u, by simp [execOp, ho, g2], g3⟩
 case makeFunc f x y =>
  simp only [evOp, ho] at hp
  obtain ⟨a, h1, hp⟩ := val_bind hp
  obtain ⟨b, h2, hp⟩ := val_bind hp
  cases Zx hp
  refine ⟨.func f (x.map act.eval) (y.map act.eval), by simp [execOp, ho, Instr.makeFunc], ?_⟩
  simp only [VA]
  refine ⟨_, _, ?_, h.opsL h1, h.opsL h2⟩
  congr 1 <;> (apply Array.ext'; simp)
 case extract x k =>
  simp only [evOp, ho] at hp
  obtain ⟨v, h1, hp⟩ := val_bind hp
  split at hp
  · rename_i vs
    split at hp
    · rename_i v hv
      cases Zx hp
      have hx := h.op h1
      simp only [VA] at hx
      obtain ⟨us, hu, hvs⟩ := hx
      obtain ⟨u, hu1, hu2⟩ := hvs.get hv
      exact ⟨u, by simp [execOp, ho, hu, Instr.extract, hu1], hu2⟩
    · simp [Rd.val] at hp
  · simp [Rd.val] at hp
 case fieldAddr t x f =>
  simp only [evOp, ho] at hp
  obtain ⟨v, h1, hp⟩ := val_bind hp
  split at hp
  · rename_i off ft hft
    obtain ⟨hz, hp⟩ := Qy hp
    split at hp
    · rename_i v' hv'
      cases Zx hp
      have hx := h.op h1
      unfold ZM at hft
      split at hft
      · rename_i fs hfs
        split at hft
        · rename_i fd hfd
          cases hft
          have hz' : Qx E.P fd.type ≠ 0 := by simpa using hz
          obtain ⟨i, hi⟩ : ∃ i, E.P.info? fd.type = some i := by
           cases hq : E.P.info? fd.type with
           | none => simp [Qx, hq] at hz'
           | some i => exact ⟨i, rfl⟩
          have run_ : ∀ {b o1 : Nat}, act.eval x = .pointer (some ⟨b, o1, none⟩) → (execOp act.eval o).run E.P w = .ok (.value (.pointer (some ⟨b, o1 + fd.offset, none⟩))) w := by
           intro b o1 e
           simp [execOp, ho, Instr.fieldAt, qu hfs, hfd, e, Instr.sureAddr, fieldPlace, Yj hi, hz', Addr.add_mid]
          cases v <;> simp only [qzN, Option.some.injEq, reduceCtorEq] at hv'
          case ptr id o1 =>
           subst hv'
           simp only [VA] at hx
           obtain ⟨b, hb, hx⟩ := hx
           exact ⟨_, run_ hx, by simp only [VA]; exact ⟨b, hb, rfl⟩⟩
          case rpt id i o1 =>
           subst hv'
           simp only [VA] at hx
           obtain ⟨b, t', n, hb, hrt, hi, hx⟩ := hx
           exact ⟨_, run_ hx, by simp only [VA]; exact ⟨b, t', n, hb, hrt, hi, by rw [Nat.add_assoc]⟩⟩
          case ept t' xs i o1 =>
           subst hv'
           simp only [VA] at hx
           obtain ⟨b, o0, us, g1, g2, g3, g4, hx⟩ := hx
           exact ⟨_, run_ hx, by simp only [VA]; exact ⟨b, o0, us, g1, g2, g3, g4, by rw [Nat.add_assoc]⟩⟩
        · cases hft
      · cases hft
    · simp [Rd.val] at hp
  · simp [Rd.val] at hp
theorem yzH {t : Nat} (h : mapT P t = true) : ∃ k e d, P.underlying t = some (.map k e) ∧ P.underlying k = some (.int .i64) ∧ (P.info? e) = some d ∧ d.zero = some .nilFunc := by
 unfold mapT at h
 split at h
 · rename_i k e ht
   split at h
   · rename_i hk he
     split at h
     · rename_i d hd
       split at h
       · rename_i hz
         exact ⟨k, e, d, ht, hk, hd, hz⟩
       · cases h
     · cases h
   · cases h
 · cases h
theorem JzV {t b : Nat} {es : Array MapEntry} {clock : Nat} {n : Int} {val : Value} (hm : mapT P t = true) (hb : w.heap[b]? = some (.map es clock)) (hf : Instr.findNow (.int .i64) (.int .i64 n) es.toList 0 = some none) :
 (Instr.mapUpdate t (.map (some b)) (.int .i64 n) val).run P w = .ok () { w with heap := w.heap.setIfInBounds b (.map (es.push { key := .int .i64 n, val := val, born := clock }) (clock + 1)) } := by
 obtain ⟨k, e, d, h1, h2, _, _⟩ := yzH hm
 have hc : (Instr.checkKey false 10000 k (.int .i64 n)).run P w = .ok () w := MapKept.run_checkKey h2 (by simp [MapKept.IsKey]) false 9999
 simp [Instr.mapUpdate, run_underlying h1, MapKept.run_getObj_map hb, hc, MapKept.run_findKey h2 hf, MapKept.run_setObj_map _ hb, Result.andThen]
theorem Yzd {t b : Nat} {es : Array MapEntry} {clock : Nat} {n : Int} {r : Option (Nat × Value)} (hm : mapT P t = true) (hb : w.heap[b]? = some (.map es clock)) (hf : Instr.findNow (.int .i64) (.int .i64 n) es.toList 0 = some r) :
 (Instr.lookup t (.map (some b)) (.int .i64 n) true).run P w = .ok (.tuple #[(r.map (·.2)).getD .nilFunc, .bool r.isSome]) w := by
 obtain ⟨k, e, d, h1, h2, h3, h4⟩ := yzH hm
 have hc : (Instr.checkKey es.isEmpty 10000 k (.int .i64 n)).run P w = .ok () w := MapKept.run_checkKey h2 (by simp [MapKept.IsKey]) _ 9999
 have hz : (zeroValue e).run P w = .ok .nilFunc w := by
  simp [zeroValue, typeInfo, h3, h4, Result.andThen]
 cases r with
 | none => simp [Instr.lookup, run_underlying h1, MapKept.run_getObj_map hb, hc, MapKept.run_findKey h2 hf, hz, Result.andThen]
 | some x => simp [Instr.lookup, run_underlying h1, MapKept.run_getObj_map hb, hc, MapKept.run_findKey h2 hf, Result.andThen]
end
section
variable {P : Program} {X : Out} {s : St} {mu : Nat → Option Nat} {ka : Nat → Nat} {cst : List (List Value)} {act : Act} {a : List Value} {w : World} {E : Env} {fr : Nat} {o : Oper} {p : AV × List Eff} {K : Act → World → Prop} {Q : Exit → Act → World → Prop} {ops : Array Oper}
theorem qzH {i : Nat} {l : List Nat} (ho : ops[i]? = some o) (hg : o.guard = none) (h : o.wp P act w (wpOps P ops Q l) Q) : wpOps P ops Q (i :: l) act w := by
 unfold wpOps
 rw [ho]
 have : Region.wanted o (yielded ops act.tmps) = true := by simp [Region.wanted, hg]
 simp only [this, if_true]
 exact .inl h
theorem jU {u : Value} {w' : World} (hr : (execOp act.eval o).run P w = .ok (.value u) w') (h : K (act.put o.dst u) w') : o.wp P act w K Q := by
 unfold Oper.wp
 rw [hr]
 exact h
theorem Qyx {w' : World} (hr : (execOp act.eval o).run P w = .ok .skip w') (h : K (act.put o.dst undef) w') : o.wp P act w K Q := by
 unfold Oper.wp
 rw [hr]
 exact h
theorem YS (h : Rel P X s mu ka cst act.tmps.toList w) (dst : Option Nat) {v : AV} {u : Value} (hv : VA P (cx P X s.mem mu ka w) v u) : Rel P X (s.put dst v) mu ka cst (act.put dst u).tmps.toList w := by
 rw [Jt]
 exact h.put dst hv
theorem yzl {α : Type} {v : View} {x : Rd α} {ks : List Key} {r : α × List Key} (h : (x.run v ks).run = some r) : x.val v = some r.1 := Rd.val_of_run h
theorem zh {b : Nat} : ∀ (l : List Nat) (s : St) (kv : List (Int × AV)) (hd : List Nat) (r : St × List (Int × AV) × List Nat), (evM E ops l s kv hd).run = some r →
 ∀ (act : Act) (w : World), Rel E.P X s mu ka cst act.tmps.toList w → MapAt E.P X s mu ka act w b kv hd → act.defers = [] →
 (∀ (act' : Act) w', Rel E.P X r.1 mu ka cst act'.tmps.toList w' → MapAt E.P X r.1 mu ka act' w' b r.2.1 r.2.2 → act'.defers = [] → Q .normal act' w') → wpOps E.P ops Q l act w
 | [], s, kv, hd, r, hr, act, w, h, hm, hdf, hQ => by
   simp only [evM, Tr.run, Option.some.injEq] at hr
   subst hr
   exact hQ act w h hm hdf
 | i :: l, s, kv, hd, r, hr, act, w, h, hm, hdf, hQ => by
   simp only [evM] at hr
   cases ho : ops[i]? with
   | none => rw [ho] at hr; simp [Tr.run] at hr
   | some o =>
     rw [ho] at hr
     simp only at hr
     cases hg : o.guard with
     | some g => rw [hg] at hr; simp [Tr.run] at hr
     | none =>
       rw [hg] at hr
       simp only at hr
       refine qzH ho hg ?_
       have dput : ∀ (dst : Option Nat) (u : Value), (act.put dst u).defers = [] := fun dst u => by cases dst <;> exact hdf
       have plain : (match still o.op with
        | false => Tr.fail
        | true => ((evOp E s.cur o).run s.view []).bind fun r => match r.1.2 with
          | [] => evM E ops l (s.put o.dst r.1.1) kv (Z8 o.dst hd)
          | _ :: _ => .fail).run = some r → o.wp E.P act w (wpOps E.P ops Q l) Q := by
        intro hr
        cases hs : still o.op with
        | false => rw [hs] at hr; simp [Tr.run] at hr
        | true =>
          rw [hs] at hr
          obtain ⟨q, h1, h2⟩ := Zu hr
          cases he : q.1.2 with
          | cons _ _ => rw [he] at h2; simp [Tr.run] at h2
          | nil =>
            rw [he] at h2
            have h3 := yzl h1
            have h4 : (evOp E s.cur o).val s.view = some (q.1.1, []) := by rw [h3, ← he]
            obtain ⟨u, g1, g2⟩ := zzl h hs h4
            exact jU g1 (zh l _ _ _ r h2 _ w (YS h o.dst g2) (hm.put o.dst u q.1.1) (dput _ _) hQ)
       have holds : ∀ m x, (o.op = .move x ∨ o.op = .assign x) → x = .tmp m → hd.contains m = true → ∀ d, o.dst = some d → ((match decide (d < s.tmps.length) with
        | true => evM E ops l (s.put (some d) (.pv .undef)) kv (d :: Z8 (some d) hd)
        | false => Tr.fail).run = some r) → o.wp E.P act w (wpOps E.P ops Q l) Q := by
        intro m x hx hx2 hc d hdst hr
        subst hx2
        cases hlt : decide (d < s.tmps.length) with
        | false => rw [hlt] at hr; simp [Tr.run] at hr
        | true =>
          rw [hlt] at hr
          have hlt' : d < act.tmps.size := by
           have e : act.tmps.size = s.tmps.length := by rw [← h.tms.length, Array.length_toList]
           rw [e]
           exact of_decide_eq_true hlt
          have hv := hm.held m (by simpa using hc)
          have hrun : (execOp act.eval o).run E.P w = .ok (.value (.map (some b))) w := by
           rcases hx with hx | hx <;> simp [execOp, hx, hv]
          refine jU hrun ?_
          rw [hdst]
          exact zh l _ _ _ r hr _ w (YS h (some d) (by simp only [VA, VP])) (hm.hold hlt') (dput _ _) hQ
       split at hr
       · rename_i t m k x hop
         cases hc : hd.contains m && (mapT E.P t && kv.all fun y => !(y.1 == k)) with
         | false => rw [hc] at hr; simp [Tr.run] at hr
         | true =>
           rw [hc] at hr
           simp only [Bool.and_eq_true] at hc
           obtain ⟨v, h1, h2⟩ := Zu hr
           have hv := h.op (yzl h1)
           obtain ⟨es, clock, e1, e2⟩ := hm.at_
           have hmap := hm.held m (by simpa using hc.1)
           have hf := e2.miss 0 hc.2.2
           have hins := JzV (val := act.eval x) hc.2.1 e1 hf
           obtain ⟨k1, k2⟩ := h.remap e1 hm.low hm.off (es.push { key := .int .i64 k, val := act.eval x, born := clock }) (clock + 1)
           have hrun : (execOp act.eval o).run E.P w = .ok .skip { w with heap := w.heap.setIfInBounds b (.map (es.push { key := .int .i64 k, val := act.eval x, born := clock }) (clock + 1)) } := by
            have hk : act.eval (.const (.int .i64 k)) = .int .i64 k := rfl
            simp [execOp, hop, hmap, hk, hins]
           refine Qyx hrun ?_
           have hm' : MapAt E.P X s mu ka act { w with heap := w.heap.setIfInBounds b (.map (es.push { key := .int .i64 k, val := act.eval x, born := clock }) (clock + 1)) } b (kv ++ [(k, v.1)]) hd := by
            refine ⟨hm.low, hm.off, ⟨_, _, (MapKept.heap_set e1).1, ?_⟩, hm.held⟩
            rw [Array.toList_push]
            exact (e2.le k1).snoc rfl (VA.le k1 _ _ hv)
           exact zh l _ _ _ r h2 _ _ (YS k2 o.dst (by simp only [VA]; exact ⟨[], rfl, by simp [VAs]⟩)) (hm'.put o.dst _ _) (dput _ _) hQ
       · rename_i t m x hop
         cases hc : hd.contains m && mapT E.P t with
         | false => rw [hc] at hr; simp [Tr.run] at hr
         | true =>
           rw [hc] at hr
           simp only [Bool.and_eq_true] at hc
           obtain ⟨v, h1, h2⟩ := Zu hr
           have hv := h.op (yzl h1)
           split at h2
           · rename_i n hn
             rw [hn] at hv
             have hv' := Jo hv
             simp only [VP] at hv'
             obtain ⟨q, h3, h4⟩ := Zu h2
             obtain ⟨es, clock, e1, e2⟩ := hm.at_
             have hmap := hm.held m (by simpa using hc.1)
             rcases e2.seek 0 h3 with ⟨rfl, hf⟩ | ⟨j, u, g1, g2, hf⟩
             · have hrun : (execOp act.eval o).run E.P w = .ok (.value (.tuple #[.nilFunc, .bool false])) w := by
                have := Yzd hc.2 e1 hf
                simp [execOp, hop, hmap, hv', this]
               refine jU hrun ?_
               refine zh l _ _ _ r h4 _ w (YS h o.dst ?_) (hm.put o.dst _ _) (dput _ _) hQ
               simp only [VA]
               exact ⟨[.nilFunc, .bool false], rfl, by simp [VAs, VA, VP]⟩
             · have hrun : (execOp act.eval o).run E.P w = .ok (.value (.tuple #[u, .bool true])) w := by
                have := Yzd hc.2 e1 hf
                simp [execOp, hop, hmap, hv', this]
               refine jU hrun ?_
               refine zh l _ _ _ r h4 _ w (YS h o.dst ?_) (hm.put o.dst _ _) (dput _ _) hQ
               simp only [VA]
               refine ⟨[u, .bool true], rfl, ?_⟩
               simp only [VAs]
               exact ⟨u, _, rfl, g2, .bool true, [], rfl, by rw [g1]; simp only [VA, VP], rfl⟩
           · simp [Tr.run] at h2
       · rename_i m hop
         cases hc : hd.contains m with
         | false => rw [hc] at hr; exact plain hr
         | true =>
           rw [hc] at hr
           cases hdst : o.dst with
           | none => rw [hdst] at hr; simp [Tr.run] at hr
           | some d => rw [hdst] at hr; exact holds m _ (.inl hop) rfl hc d hdst hr
       · rename_i m hop
         cases hc : hd.contains m with
         | false => rw [hc] at hr; exact plain hr
         | true =>
           rw [hc] at hr
           cases hdst : o.dst with
           | none => rw [hdst] at hr; simp [Tr.run] at hr
           | some d => rw [hdst] at hr; exact holds m _ (.inr hop) rfl hc d hdst hr
       · exact plain hr
theorem Yzt {id : Nat} {r : St × List (Int × AV) × List Nat} (hr : (zzH E ops s).run = some r) (h : Rel E.P X s mu ka cst act.tmps.toList w) (hdf : act.defers = [])
 (hQ : ∀ (act' : Act) w' b, Rel E.P X r.1 mu ka cst act'.tmps.toList w' → MapAt E.P X r.1 mu ka act' w' b r.2.1 r.2.2 → act'.defers = [] → Q .normal act' w') : (Code.region id ops false).wp E.P Q act w := by
 unfold zzH at hr
 split at hr
 · rename_i o ho
   split at hr
   · rename_i t d hg hop hdst
     cases hlt : decide (d < s.tmps.length) with
     | false => rw [hlt] at hr; simp [Tr.run] at hr
     | true =>
       rw [hlt] at hr
       have hlt' : d < act.tmps.size := by
        have e : act.tmps.size = s.tmps.length := by rw [← h.tms.length, Array.length_toList]
        rw [e]
        exact of_decide_eq_true hlt
       refine wp_region ?_
       have hsz : 0 < ops.size := (Array.getElem?_eq_some_iff.1 ho).1
       have hl : List.range ops.size = 0 :: (List.range ops.size).drop 1 := by
        obtain ⟨n, hn⟩ : ∃ n, ops.size = n + 1 := ⟨ops.size - 1, by omega⟩
        rw [hn, List.range_succ_eq_map]
        rfl
       rw [hl]
       refine qzH ho hg ?_
       have hrun : (execOp act.eval o).run E.P w = .ok (.value (.map (some w.heap.size))) (w.alloc (.map #[] 0)) := by
        simp [execOp, hop, run_makeMap]
       refine jU hrun ?_
       have hb : Below w.heap.size w (w.alloc (.map #[] 0)) := (Below.refl _ w).alloc (Nat.le_refl _) _
       obtain ⟨n1, n2⟩ := h.grow hb
       have hat : (w.alloc (.map #[] 0)).heap[w.heap.size]? = some (.map #[] 0) := (MapKept.heap_alloc w _).1
       have hm : MapAt E.P X s mu ka act (w.alloc (.map #[] 0)) w.heap.size [] [] := by
        refine ⟨h.size, fun i ob hi hf hlive => ?_, ⟨_, _, hat, rfl⟩, fun m hm => by cases hm⟩
        rcases h.obs i ob hf with ⟨b', hb', ho'⟩ | ⟨hn, _⟩
        · rw [hi] at hb'
          cases hb'
          have := zS ho' hlive
          exact absurd this (Nat.lt_irrefl _)
        · rw [hi] at hn
          cases hn
       rw [hdst]
       refine zh _ _ _ _ r hr _ _ (YS n2 (some d) (by simp only [VA, VP])) (hm.hold hlt') hdf ?_
       exact fun act' w' q1 q2 q3 => hQ act' w' _ q1 q2 q3
   · simp [Tr.run] at hr
 · simp [Tr.run] at hr
theorem zzU (hE : E.Ok) (hm : E.P.follows .mixedOrders = true) {n f : Nat} {ps : List PV} {r : Res} (hr : (jzd E n f ps).run = some r) {w : World} {S : Nat → Nat → Prop} {vs : List Value} (hS : ∀ b o, S b o → b < w.heap.size) (hv : VPs E.P w S ps vs) :
 Calls E.P f vs.toArray w fun e w' => ∃ v, e = .returned v ∧ Below w.heap.size w w' ∧ ResRel E.P S w w' r v := by
 unfold jzd at hr
 cases hf : E.P.funcs[f]? with
 | none => rw [hf] at hr; simp [Tr.run] at hr
 | some fn =>
   rw [hf] at hr
   simp only at hr
   split at hr
   · rename_i ca cb i1 m i2 l rest hb
     refine Qi hf hb ?_
     obtain ⟨ra, h1, hr1⟩ := Zu hr
     clear hr
     have hst := jzJ hS hv fn.ntmps 0 1 f
     refine qzv (ji hE hm n (ql f) (E.fits_frame f) ca _ ra.1 ra.2 (show _ = some (ra.1, ra.2) from h1) (za w S hS) (fun _ => none) (fun _ => 0) [] _ w ?_ rfl _ ?_)
     · show Rel E.P ⟨w.heap.size, w, S, hS, Nat.le_refl _⟩ _ _ _ _ _ w
       simpa using hst
     · intro mu1 ka1 act1 w1 hrel1 hd1
       cases hqa : ra.1 <;> rw [hqa] at hr1 <;> simp only at hr1
       case normal =>
        obtain ⟨rb, h2, hr2⟩ := Zu hr1
        refine qzv (ji hE hm n (ql f) (E.fits_frame f) cb _ rb.1 rb.2 (show _ = some (rb.1, rb.2) from h2) (za w S hS) mu1 ka1 [] act1 w1 hrel1 hd1 _ ?_)
        intro mu2 ka2 act2 w2 hrel2 hd2
        cases hqb : rb.1 <;> rw [hqb] at hr2 <;> simp only at hr2
        case normal =>
         obtain ⟨x, h3, hr3⟩ := Zu hr2
         obtain ⟨y, h4, hr4⟩ := Zu hr3
         refine qzv (Je <| Yzt h3 hrel2 hd2 ?_)
         intro act3 w3 b hrel3 hm3 hd3
         refine qzv (Je <| wp_region (zh _ _ _ _ y h4 act3 w3 hrel3 hm3 hd3 ?_))
         intro act4 w4 hrel4 hm4 hd4
         refine JzI (E.fits_frame f) hE hm hr4 hS hrel4 hd4 ?_
         intro v w' q1 q2
         exact ⟨v, rfl, q1, q2⟩
        all_goals simp [Tr.run] at hr2
       all_goals simp [Tr.run] at hr1
   · simp [Tr.run] at hr
end
theorem jzH {P : Program} {f : Nat} (n : Nat) (rs : List PK) (ts : List PK) (pre : List PV → Bool) (res : List PV → Res) (hm : P.follows .mixedOrders = true)
 (h : ∀ ps, YzV P ps → okPs ts ps = true → pre ps = true → ∃ (E : Env) (r : Res), E.P = P ∧ E.Ok ∧ (Qw rs (jzd E n f (ym ts ps))).run = some r ∧ (r = res ps ∨ r.plain = res ps)) : Spec P f ⟨fun ps => okPs ts ps && pre ps, res⟩ := by
 intro w S ps vs hS hv hp
 have hp' : (okPs ts ps && pre ps) = true := hp
 simp only [Bool.and_eq_true] at hp'
 obtain ⟨E, r, rfl, h2, h3, h4⟩ := h ps ⟨w, S, vs, hv⟩ hp'.1 hp'.2
 rw [Yr hp'.1] at h3
 unfold Qw at h3
 obtain ⟨r0, h5, h6⟩ := Zu h3
 simp only [Tr.run, Option.some.injEq] at h6
 refine Calls.mono (zzU h2 hm h5 hS hv) ?_
 rintro e w' ⟨v, g1, g2, g3⟩
 refine ⟨v, g1, g2, ?_⟩
 have g4 : ResRel E.P S w w' r v := by
  rw [← h6]
  exact g3.fit
 rcases h4 with rfl | h4
 · exact g4
 · show ResRel E.P S w w' (res ps) v
   rw [← h4]
   exact g4.plain hS
end Go.Proofs.YtgfnpgnfklcicaaGreatS
